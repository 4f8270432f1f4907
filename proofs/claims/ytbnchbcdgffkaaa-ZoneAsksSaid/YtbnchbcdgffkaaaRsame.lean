/- vokref.Zone: are two alike. -/
import Derived.Test.YtbnchbcdgffkaaaRmay
import Derived.Test.YtbnchbcdgffkaaaRnear
namespace Go.Proofs.Ytbnchbcdgffkaaa
open Go.RowKit
set_option linter.unusedVariables false
/-- A yearly shift in a block. -/
structure Five (w : World) (p : Nat) (x : Yr) : Prop where
  blk : w.heap[p]? = some (.cells #[.int .i64 x.m, .int .i64 x.n, .int .i64 x.w, .int .i64 x.s, .int .i64 x.o] 50)
theorem Five.lt {w : World} {p : Nat} {x : Yr} (h : Five w p x) : p < w.heap.size := (Array.getElem?_eq_some_iff.1 h.blk).1
theorem Five.all {w : World} {p : Nat} {x : Yr} (h : Five w p x) : w.cell? ⟨p, 0, none⟩ = some (.int .i64 x.m) ∧ w.cell? ⟨p, 1, none⟩ = some (.int .i64 x.n) ∧ w.cell? ⟨p, 2, none⟩ = some (.int .i64 x.w) ∧ w.cell? ⟨p, 3, none⟩ = some (.int .i64 x.s) ∧ w.cell? ⟨p, 4, none⟩ = some (.int .i64 x.o) := by
  simp [World.cell?, h.blk]
theorem Five.free {w : World} {p : Nat} {x : Yr} (h : Five w p x) (i : Nat) : w.frozen? ⟨p, i, none⟩ = false := by simp [World.frozen?, h.blk]
theorem Five.below {w w' : World} {B p : Nat} {x : Yr} (h : Five w p x) (hb : Below B w w') (hp : p < B) : Five w' p x := ⟨(hb.block p hp).trans h.blk⟩
theorem Five.alloc {w : World} {p : Nat} {x : Yr} (h : Five w p x) (o : Obj) : Five (w.alloc o) p x := h.below ((Below.refl _ _).alloc (Nat.le_refl _) o) h.lt
theorem Five.new_ (w : World) (x : Yr) (p : Nat) (hp : p = w.heap.size) : Five (w.alloc (.cells #[.int .i64 x.m, .int .i64 x.n, .int .i64 x.w, .int .i64 x.s, .int .i64 x.o] 50)) p x := ⟨by subst hp; show (w.heap.push _)[w.heap.size]? = _; simp⟩
theorem Five.set {w : World} {p : Nat} {x : Yr} (h : Five w p x) (y : Yr) : Five (((((w.setCell ⟨p, 0, none⟩ (.int .i64 y.m)).setCell ⟨p, 1, none⟩ (.int .i64 y.n)).setCell ⟨p, 2, none⟩ (.int .i64 y.w)).setCell ⟨p, 3, none⟩ (.int .i64 y.s)).setCell ⟨p, 4, none⟩ (.int .i64 y.o)) p y := ⟨by
  have := h.blk
  simp [World.setCell, Array.getElem?_modify, this]⟩
theorem Five.other {w : World} {p q i : Nat} {x : Yr} (h : Five w p x) (hne : p ≠ q) (v : Value) : Five (w.setCell ⟨q, i, none⟩ v) p x := ⟨(Below.heap_setCell w ⟨q, i, none⟩ v p hne).trans h.blk⟩
/-- A zone in its box at p, its lengths as numbers. -/
structure Sn (w0 w : World) (p : Nat) (bs : Int) (A : Option Addr) (n c : Nat) (A' : Option Addr) (n' c' : Nat) (fr : Int) (L : List Sh) (Y : List Yr) : Prop where
  b : Below w0.heap.size w0 w
  z : ZAt w w0.heap.size A A' L Y
  x : Boxed w p bs A n c A' n' c' fr
section
variable {w0 w w' : World} {p : Nat} {bs : Int} {A : Option Addr} {n c : Nat} {A' : Option Addr} {n' c' : Nat} {fr : Int} {L : List Sh} {Y : List Yr}
theorem Sn.le (s : Sn w0 w p bs A n c A' n' c' fr L Y) : w0.heap.size ≤ w.heap.size := s.b.size
theorem Sn.step (s : Sn w0 w p bs A n c A' n' c' fr L Y) (b : Below w.heap.size w w') : Sn w0 w' p bs A n c A' n' c' fr L Y :=
  ⟨s.b.trans (b.mono s.le), s.z.below (b.mono s.le), s.x.below b s.x.lt⟩
theorem Sn.alloc (s : Sn w0 w p bs A n c A' n' c' fr L Y) (o : Obj) : Sn w0 (w.alloc o) p bs A n c A' n' c' fr L Y := s.step ((Below.refl _ _).alloc (Nat.le_refl _) o)
theorem Sn.drew (s : Sn w0 w p bs A n c A' n' c' fr L Y) : Sn w0 w.drew p bs A n c A' n' c' fr L Y := ⟨s.b.drew, ⟨s.z.s, s.z.y, s.z.l, s.z.l'⟩, s.x.drew⟩
theorem Sn.cells (s : Sn w0 w p bs A n c A' n' c' fr L Y) : p < w.heap.size ∧ w.cell? ⟨p, 0, none⟩ = some (.int .i64 bs) ∧ w.cell? ⟨p, 1, none⟩ = some (.slice A n c) ∧ w.cell? ⟨p, 2, none⟩ = some (.slice A' n' c') ∧ w.cell? ⟨p, 3, none⟩ = some (.int .i64 fr) := ⟨s.x.lt, s.x.c0, s.x.c1, s.x.c2, s.x.c3⟩
theorem Sn.set {q i : Nat} (s : Sn w0 w p bs A n c A' n' c' fr L Y) (hq : w0.heap.size ≤ q) (hne : p < q) (v : Value) : Sn w0 (w.setCell ⟨q, i, none⟩ v) p bs A n c A' n' c' fr L Y := by
  have b : Below w0.heap.size w (w.setCell ⟨q, i, none⟩ v) := Below.setCell (Below.refl w0.heap.size w) (p := ⟨q, i, none⟩) hq v
  have b2 : Below q w (w.setCell ⟨q, i, none⟩ v) := Below.setCell (Below.refl q w) (p := ⟨q, i, none⟩) (Nat.le_refl _) v
  exact ⟨s.b.trans b, s.z.below b, s.x.below b2 hne⟩
end
set_option maxRecDepth 100000 in
set_option maxHeartbeats 8000000 in
theorem rsame_any {bs : Int} {A A' : Option Addr} {c c' : Nat} {fr : Int} {L : List Sh} {Y : List Yr} {bs2 : Int} {A2 A2' : Option Addr} {c2 c2' : Nat} {fr2 : Int} {L2 : List Sh} {Y2 : List Yr} {B : Nat} {w : World} (hz : ZAt w B A A' L Y) (hz2 : ZAt w B A2 A2' L2 Y2) (hB : B ≤ w.heap.size) :
    Calls Try.prog 25 #[zv bs A L.length c A' Y.length c' fr, zv bs2 A2 L2.length c2 A2' Y2.length c2' fr2] w fun e w' => e = .returned (.bool (sameB bs L Y fr bs2 L2 Y2 fr2)) ∧ Below w.heap.size w w' := by
  replace hz := hz.mono hB
  replace hz2 := hz2.mono hB
  obtain ⟨n1, hn1⟩ : ∃ n, n = L.length := ⟨_, rfl⟩
  obtain ⟨n2, hn2⟩ : ∃ n, n = Y.length := ⟨_, rfl⟩
  obtain ⟨m1, hm1⟩ : ∃ n, n = L2.length := ⟨_, rfl⟩
  obtain ⟨m2, hm2⟩ : ∃ n, n = Y2.length := ⟨_, rfl⟩
  rw [← hn1, ← hn2, ← hm1, ← hm2]
  have bx := ((Below.refl w.heap.size w).alloc (Nat.le_refl _) (zo bs A n1 c A' n2 c' fr)).alloc (by simp) (zo bs2 A2 m1 c2 A2' m2 c2' fr2)
  have hlm := hz.l
  have hlm' := hz.l'
  unfold maxLen at hlm hlm'
  rw [← hn1] at hlm
  rw [← hn2] at hlm'
  replace hn1 := Lib.hid hn1
  replace hn2 := Lib.hid hn2
  replace hm1 := Lib.hid hm1
  replace hm2 := Lib.hid hm2
  by_cases q1 : bs = bs2
  · subst q1
    by_cases q2 : fr = fr2
    · subst q2
      by_cases nL : n1 = m1
      · subst nL
        by_cases nY : n2 = m2
        · subst nY
          go_enter Try.func25, Try.ntmps25
          go_wp2_with fail
          have s : Sn w ((w.alloc (zo bs A n1 c A' n2 c' fr)).alloc (zo bs A2 n1 c2 A2' n2 c2' fr)) w.heap.size bs A n1 c A' n2 c' fr L Y := ⟨bx, hz.below bx, (Boxed.new_ w).below ((Below.refl (w.heap.size + 1) _).alloc (by simp) _) (Nat.lt_succ_self _)⟩
          have s2 : Sn w ((w.alloc (zo bs A n1 c A' n2 c' fr)).alloc (zo bs A2 n1 c2 A2' n2 c2' fr)) (w.heap.size + 1) bs A2 n1 c2 A2' n2 c2' fr L2 Y2 := ⟨bx, hz2.below bx, by
            have := Boxed.new_ (bs := bs) (A := A2) (n := n1) (c := c2) (A' := A2') (n' := n2) (c' := c2') (fr := fr) (w.alloc (zo bs A n1 c A' n2 c' fr))
            rwa [show (w.alloc (zo bs A n1 c A' n2 c' fr)).heap.size = w.heap.size + 1 by simp] at this⟩
          generalize (w.alloc (zo bs A n1 c A' n2 c' fr)).alloc (zo bs A2 n1 c2 A2' n2 c2' fr) = w1 at s s2 ⊢
          clear bx
          go_loopw [5] (fun kv wr => ∃ j : Nat, j ≤ n1 ∧ kv = .int .i64 (j : Int) ∧ (∀ k (h : k < L.length), k < j → L[k]? = L2[k]?) ∧ Sn w wr w.heap.size bs A n1 c A' n2 c' fr L Y ∧ Sn w wr (w.heap.size + 1) bs A2 n1 c2 A2' n2 c2' fr L2 Y2) (fun kv _ => n1 - (intOf kv).toNat)
          case atStart => exact ⟨0, Nat.zero_le _, rfl, fun k h h2 => absurd h2 (by omega), s, s2⟩
          case round =>
            clear s s2
            obtain ⟨j, hj, rfl, hU, s, s2⟩ := hrel
            obtain ⟨lt, c0, c1, c2_, c3⟩ := s.cells
            obtain ⟨lt2, g0, g1, g2, g3⟩ := s2.cells
            by_cases hjn : j < n1
            · have hlt : j < L.length := by have := hn1.out; omega
              have hlt2 : j < L2.length := by have := hm1.out; omega
              obtain ⟨ad, rfl, -⟩ := s.z.s j hlt
              obtain ⟨ad2, rfl, -⟩ := s2.z.s j hlt2
              have i0 : (0 : Int) ≤ (j : Int) := by omega
              have i1 : (j : Int) < (n1 : Int) := by omega
              go_wp2_with fail
              clear lt c0 c1 c2_ c3 lt2 g0 g1 g2 g3
              replace s := s.drew
              replace s2 := s2.drew
              by_cases q1 : L[j].at_ = L2[j].at_
              · by_cases q2 : L[j].off = L2[j].off
                · have hnx := Lib.hid (show ∀ k (h : k < L.length), k < j + 1 → L[k]? = L2[k]? from fun k h h2 => by
                    rcases Nat.lt_or_eq_of_le (Nat.le_of_lt_succ h2) with h3 | rfl
                    · exact hU k h h3
                    · rw [List.getElem?_eq_getElem hlt, List.getElem?_eq_getElem hlt2]
                      congr 1
                      have e1 : L[k] = ⟨L[k].at_, L[k].off⟩ := rfl
                      have e2 : L2[k] = ⟨L2[k].at_, L2[k].off⟩ := rfl
                      rw [e1, e2, q1, q2])
                  have t1 : (L[j].at_ != L2[j].at_) = false := by simpa using q1
                  have t2 : (L[j].off != L2[j].off) = false := by simpa using q2
                  clear q1 q2
                  refine wp_region_held_drew (S := fun w9 => Sn w w9 w.heap.size bs (some ad) n1 c A' n2 c' fr L Y ∧ Sn w w9 (w.heap.size + 1) bs (some ad2) n1 c2 A2' n2 c2' fr L2 Y2) (by kernel_rfl) ⟨s, s2⟩ (fun _ => ?_)
                  refine wpAnyH_take (i := 0) (oi := { dst := some 46, op := Op.fieldAddr 25 (Operand.tmp 2) 1, type := 0, pos := "same.go:90", after := #[], guard := none }) (v := ?_) rfl (by kernel_rfl) (by kernel_rfl) (by kernel_rfl) (fun _ _ _ h => h) (Or.inl ⟨by rfl, ?_⟩) (by trivial) ?_
                  rotate_left
                  (focus (intro w9 hSw; obtain ⟨s9, t9⟩ := hSw; obtain ⟨lt, c0, c1, c2_, c3⟩ := s9.cells; obtain ⟨lt2, g0, g1, g2, g3⟩ := t9.cells; obtain ⟨p0, p1⟩ := sh_at s9.z.s j hlt; obtain ⟨r0, r1⟩ := sh_at t9.z.s j hlt2; go_simp <;> with_reducible rfl))
                  try simp only [Act.put, List.setIfInBounds_toArray, List.set_cons_zero, List.set_cons_succ]
                  refine wpAnyH_take (i := 1) (oi := { dst := some 47, op := Op.load 22 (Operand.tmp 46), type := 22, pos := "same.go:90", after := #[{ on := 0, ground := Ground.data }], guard := none }) (v := ?_) rfl (by kernel_rfl) (by kernel_rfl) (by kernel_rfl) (fun _ _ _ h => h) (Or.inl ⟨by rfl, ?_⟩) (by trivial) ?_
                  rotate_left
                  (focus (intro w9 hSw; obtain ⟨s9, t9⟩ := hSw; obtain ⟨lt, c0, c1, c2_, c3⟩ := s9.cells; obtain ⟨lt2, g0, g1, g2, g3⟩ := t9.cells; obtain ⟨p0, p1⟩ := sh_at s9.z.s j hlt; obtain ⟨r0, r1⟩ := sh_at t9.z.s j hlt2; go_simp <;> with_reducible rfl))
                  try simp only [Act.put, List.setIfInBounds_toArray, List.set_cons_zero, List.set_cons_succ]
                  refine wpAnyH_take (i := 2) (oi := { dst := some 48, op := Op.move (Operand.tmp 5), type := 3, pos := "same.go:90", after := #[], guard := none }) (v := ?_) rfl (by kernel_rfl) (by kernel_rfl) (by kernel_rfl) (fun _ _ _ h => h) (Or.inl ⟨by rfl, ?_⟩) (by trivial) ?_
                  rotate_left
                  (focus (intro w9 hSw; obtain ⟨s9, t9⟩ := hSw; obtain ⟨lt, c0, c1, c2_, c3⟩ := s9.cells; obtain ⟨lt2, g0, g1, g2, g3⟩ := t9.cells; obtain ⟨p0, p1⟩ := sh_at s9.z.s j hlt; obtain ⟨r0, r1⟩ := sh_at t9.z.s j hlt2; go_simp <;> with_reducible rfl))
                  try simp only [Act.put, List.setIfInBounds_toArray, List.set_cons_zero, List.set_cons_succ]
                  refine wpAnyH_take (i := 3) (oi := { dst := some 49, op := Op.indexAddr 22 (Operand.tmp 47) (Operand.tmp 48), type := 0, pos := "same.go:90", after := #[{ on := 1, ground := Ground.data }, { on := 2, ground := Ground.data }], guard := none }) (v := ?_) rfl (by kernel_rfl) (by kernel_rfl) (by kernel_rfl) (fun _ _ _ h => h) (Or.inl ⟨by rfl, ?_⟩) (by trivial) ?_
                  rotate_left
                  (focus (intro w9 hSw; obtain ⟨s9, t9⟩ := hSw; obtain ⟨lt, c0, c1, c2_, c3⟩ := s9.cells; obtain ⟨lt2, g0, g1, g2, g3⟩ := t9.cells; obtain ⟨p0, p1⟩ := sh_at s9.z.s j hlt; obtain ⟨r0, r1⟩ := sh_at t9.z.s j hlt2; go_simp <;> with_reducible rfl))
                  try simp only [Act.put, List.setIfInBounds_toArray, List.set_cons_zero, List.set_cons_succ]
                  refine wpAnyH_take (i := 4) (oi := { dst := some 50, op := Op.fieldAddr 29 (Operand.tmp 49) 0, type := 0, pos := "same.go:90", after := #[{ on := 3, ground := Ground.data }], guard := none }) (v := ?_) rfl (by kernel_rfl) (by kernel_rfl) (by kernel_rfl) (fun _ _ _ h => h) (Or.inl ⟨by rfl, ?_⟩) (by trivial) ?_
                  rotate_left
                  (focus (intro w9 hSw; obtain ⟨s9, t9⟩ := hSw; obtain ⟨lt, c0, c1, c2_, c3⟩ := s9.cells; obtain ⟨lt2, g0, g1, g2, g3⟩ := t9.cells; obtain ⟨p0, p1⟩ := sh_at s9.z.s j hlt; obtain ⟨r0, r1⟩ := sh_at t9.z.s j hlt2; go_simp <;> with_reducible rfl))
                  try simp only [Act.put, List.setIfInBounds_toArray, List.set_cons_zero, List.set_cons_succ]
                  refine wpAnyH_take (i := 5) (oi := { dst := some 51, op := Op.load 3 (Operand.tmp 50), type := 3, pos := "same.go:90", after := #[{ on := 4, ground := Ground.data }], guard := none }) (v := ?_) rfl (by kernel_rfl) (by kernel_rfl) (by kernel_rfl) (fun _ _ _ h => h) (Or.inl ⟨by rfl, ?_⟩) (by trivial) ?_
                  rotate_left
                  (focus (intro w9 hSw; obtain ⟨s9, t9⟩ := hSw; obtain ⟨lt, c0, c1, c2_, c3⟩ := s9.cells; obtain ⟨lt2, g0, g1, g2, g3⟩ := t9.cells; obtain ⟨p0, p1⟩ := sh_at s9.z.s j hlt; obtain ⟨r0, r1⟩ := sh_at t9.z.s j hlt2; go_simp <;> with_reducible rfl))
                  try simp only [Act.put, List.setIfInBounds_toArray, List.set_cons_zero, List.set_cons_succ]
                  refine wpAnyH_take (i := 6) (oi := { dst := some 52, op := Op.fieldAddr 25 (Operand.tmp 3) 1, type := 0, pos := "same.go:90", after := #[], guard := none }) (v := ?_) rfl (by kernel_rfl) (by kernel_rfl) (by kernel_rfl) (fun _ _ _ h => h) (Or.inl ⟨by rfl, ?_⟩) (by trivial) ?_
                  rotate_left
                  (focus (intro w9 hSw; obtain ⟨s9, t9⟩ := hSw; obtain ⟨lt, c0, c1, c2_, c3⟩ := s9.cells; obtain ⟨lt2, g0, g1, g2, g3⟩ := t9.cells; obtain ⟨p0, p1⟩ := sh_at s9.z.s j hlt; obtain ⟨r0, r1⟩ := sh_at t9.z.s j hlt2; go_simp <;> with_reducible rfl))
                  try simp only [Act.put, List.setIfInBounds_toArray, List.set_cons_zero, List.set_cons_succ]
                  refine wpAnyH_take (i := 7) (oi := { dst := some 53, op := Op.load 22 (Operand.tmp 52), type := 22, pos := "same.go:90", after := #[{ on := 6, ground := Ground.data }], guard := none }) (v := ?_) rfl (by kernel_rfl) (by kernel_rfl) (by kernel_rfl) (fun _ _ _ h => h) (Or.inl ⟨by rfl, ?_⟩) (by trivial) ?_
                  rotate_left
                  (focus (intro w9 hSw; obtain ⟨s9, t9⟩ := hSw; obtain ⟨lt, c0, c1, c2_, c3⟩ := s9.cells; obtain ⟨lt2, g0, g1, g2, g3⟩ := t9.cells; obtain ⟨p0, p1⟩ := sh_at s9.z.s j hlt; obtain ⟨r0, r1⟩ := sh_at t9.z.s j hlt2; go_simp <;> with_reducible rfl))
                  try simp only [Act.put, List.setIfInBounds_toArray, List.set_cons_zero, List.set_cons_succ]
                  refine wpAnyH_take (i := 8) (oi := { dst := some 54, op := Op.move (Operand.tmp 5), type := 3, pos := "same.go:90", after := #[], guard := none }) (v := ?_) rfl (by kernel_rfl) (by kernel_rfl) (by kernel_rfl) (fun _ _ _ h => h) (Or.inl ⟨by rfl, ?_⟩) (by trivial) ?_
                  rotate_left
                  (focus (intro w9 hSw; obtain ⟨s9, t9⟩ := hSw; obtain ⟨lt, c0, c1, c2_, c3⟩ := s9.cells; obtain ⟨lt2, g0, g1, g2, g3⟩ := t9.cells; obtain ⟨p0, p1⟩ := sh_at s9.z.s j hlt; obtain ⟨r0, r1⟩ := sh_at t9.z.s j hlt2; go_simp <;> with_reducible rfl))
                  try simp only [Act.put, List.setIfInBounds_toArray, List.set_cons_zero, List.set_cons_succ]
                  refine wpAnyH_take (i := 9) (oi := { dst := some 55, op := Op.indexAddr 22 (Operand.tmp 53) (Operand.tmp 54), type := 0, pos := "same.go:90", after := #[{ on := 7, ground := Ground.data }, { on := 8, ground := Ground.data }], guard := none }) (v := ?_) rfl (by kernel_rfl) (by kernel_rfl) (by kernel_rfl) (fun _ _ _ h => h) (Or.inl ⟨by rfl, ?_⟩) (by trivial) ?_
                  rotate_left
                  (focus (intro w9 hSw; obtain ⟨s9, t9⟩ := hSw; obtain ⟨lt, c0, c1, c2_, c3⟩ := s9.cells; obtain ⟨lt2, g0, g1, g2, g3⟩ := t9.cells; obtain ⟨p0, p1⟩ := sh_at s9.z.s j hlt; obtain ⟨r0, r1⟩ := sh_at t9.z.s j hlt2; go_simp <;> with_reducible rfl))
                  try simp only [Act.put, List.setIfInBounds_toArray, List.set_cons_zero, List.set_cons_succ]
                  refine wpAnyH_take (i := 10) (oi := { dst := some 56, op := Op.fieldAddr 29 (Operand.tmp 55) 0, type := 0, pos := "same.go:90", after := #[{ on := 9, ground := Ground.data }], guard := none }) (v := ?_) rfl (by kernel_rfl) (by kernel_rfl) (by kernel_rfl) (fun _ _ _ h => h) (Or.inl ⟨by rfl, ?_⟩) (by trivial) ?_
                  rotate_left
                  (focus (intro w9 hSw; obtain ⟨s9, t9⟩ := hSw; obtain ⟨lt, c0, c1, c2_, c3⟩ := s9.cells; obtain ⟨lt2, g0, g1, g2, g3⟩ := t9.cells; obtain ⟨p0, p1⟩ := sh_at s9.z.s j hlt; obtain ⟨r0, r1⟩ := sh_at t9.z.s j hlt2; go_simp <;> with_reducible rfl))
                  try simp only [Act.put, List.setIfInBounds_toArray, List.set_cons_zero, List.set_cons_succ]
                  refine wpAnyH_take (i := 11) (oi := { dst := some 57, op := Op.load 3 (Operand.tmp 56), type := 3, pos := "same.go:90", after := #[{ on := 10, ground := Ground.data }], guard := none }) (v := ?_) rfl (by kernel_rfl) (by kernel_rfl) (by kernel_rfl) (fun _ _ _ h => h) (Or.inl ⟨by rfl, ?_⟩) (by trivial) ?_
                  rotate_left
                  (focus (intro w9 hSw; obtain ⟨s9, t9⟩ := hSw; obtain ⟨lt, c0, c1, c2_, c3⟩ := s9.cells; obtain ⟨lt2, g0, g1, g2, g3⟩ := t9.cells; obtain ⟨p0, p1⟩ := sh_at s9.z.s j hlt; obtain ⟨r0, r1⟩ := sh_at t9.z.s j hlt2; go_simp <;> with_reducible rfl))
                  try simp only [Act.put, List.setIfInBounds_toArray, List.set_cons_zero, List.set_cons_succ]
                  refine wpAnyH_take (i := 12) (oi := { dst := some 58, op := Op.binOp BinOp.neq 3 (Operand.tmp 51) (Operand.tmp 57) 3, type := 4, pos := "same.go:90", after := #[{ on := 5, ground := Ground.data }, { on := 11, ground := Ground.data }], guard := none }) (v := ?_) rfl (by kernel_rfl) (by kernel_rfl) (by kernel_rfl) (fun _ _ _ h => h) (Or.inl ⟨by rfl, ?_⟩) (by trivial) ?_
                  rotate_left
                  (focus (intro w9 hSw; obtain ⟨s9, t9⟩ := hSw; obtain ⟨lt, c0, c1, c2_, c3⟩ := s9.cells; obtain ⟨lt2, g0, g1, g2, g3⟩ := t9.cells; obtain ⟨p0, p1⟩ := sh_at s9.z.s j hlt; obtain ⟨r0, r1⟩ := sh_at t9.z.s j hlt2; go_simp <;> with_reducible rfl))
                  try simp only [Act.put, List.setIfInBounds_toArray, List.set_cons_zero, List.set_cons_succ]
                  refine wpAnyH_take (i := 13) (oi := { dst := some 59, op := Op.move (Operand.tmp 58), type := 4, pos := "same.go:90", after := #[{ on := 12, ground := Ground.data }], guard := none }) (v := ?_) rfl (by kernel_rfl) (by kernel_rfl) (by kernel_rfl) (fun _ _ _ h => h) (Or.inl ⟨by rfl, ?_⟩) (by trivial) ?_
                  rotate_left
                  (focus (intro w9 hSw; obtain ⟨s9, t9⟩ := hSw; obtain ⟨lt, c0, c1, c2_, c3⟩ := s9.cells; obtain ⟨lt2, g0, g1, g2, g3⟩ := t9.cells; obtain ⟨p0, p1⟩ := sh_at s9.z.s j hlt; obtain ⟨r0, r1⟩ := sh_at t9.z.s j hlt2; go_simp <;> with_reducible rfl))
                  try simp only [Act.put, List.setIfInBounds_toArray, List.set_cons_zero, List.set_cons_succ]
                  refine wpAnyH_take (i := 14) (oi := { dst := some 60, op := Op.fieldAddr 25 (Operand.tmp 2) 1, type := 0, pos := "same.go:90", after := #[{ on := 13, ground := Ground.guard }], guard := some (13, false) }) (v := ?_) rfl (by kernel_rfl) (by kernel_rfl) (by kernel_rfl) (fun _ _ _ h => h) (Or.inl ⟨by rfl, ?_⟩) (by trivial) ?_
                  rotate_left
                  (focus (intro w9 hSw; obtain ⟨s9, t9⟩ := hSw; obtain ⟨lt, c0, c1, c2_, c3⟩ := s9.cells; obtain ⟨lt2, g0, g1, g2, g3⟩ := t9.cells; obtain ⟨p0, p1⟩ := sh_at s9.z.s j hlt; obtain ⟨r0, r1⟩ := sh_at t9.z.s j hlt2; go_simp <;> with_reducible rfl))
                  try simp only [Act.put, List.setIfInBounds_toArray, List.set_cons_zero, List.set_cons_succ]
                  refine wpAnyH_take (i := 15) (oi := { dst := some 61, op := Op.load 22 (Operand.tmp 60), type := 22, pos := "same.go:90", after := #[{ on := 14, ground := Ground.data }, { on := 13, ground := Ground.guard }], guard := some (13, false) }) (v := ?_) rfl (by kernel_rfl) (by kernel_rfl) (by kernel_rfl) (fun _ _ _ h => h) (Or.inl ⟨by rfl, ?_⟩) (by trivial) ?_
                  rotate_left
                  (focus (intro w9 hSw; obtain ⟨s9, t9⟩ := hSw; obtain ⟨lt, c0, c1, c2_, c3⟩ := s9.cells; obtain ⟨lt2, g0, g1, g2, g3⟩ := t9.cells; obtain ⟨p0, p1⟩ := sh_at s9.z.s j hlt; obtain ⟨r0, r1⟩ := sh_at t9.z.s j hlt2; go_simp <;> with_reducible rfl))
                  try simp only [Act.put, List.setIfInBounds_toArray, List.set_cons_zero, List.set_cons_succ]
                  refine wpAnyH_take (i := 16) (oi := { dst := some 62, op := Op.move (Operand.tmp 5), type := 3, pos := "same.go:90", after := #[{ on := 13, ground := Ground.guard }], guard := some (13, false) }) (v := ?_) rfl (by kernel_rfl) (by kernel_rfl) (by kernel_rfl) (fun _ _ _ h => h) (Or.inl ⟨by rfl, ?_⟩) (by trivial) ?_
                  rotate_left
                  (focus (intro w9 hSw; obtain ⟨s9, t9⟩ := hSw; obtain ⟨lt, c0, c1, c2_, c3⟩ := s9.cells; obtain ⟨lt2, g0, g1, g2, g3⟩ := t9.cells; obtain ⟨p0, p1⟩ := sh_at s9.z.s j hlt; obtain ⟨r0, r1⟩ := sh_at t9.z.s j hlt2; go_simp <;> with_reducible rfl))
                  try simp only [Act.put, List.setIfInBounds_toArray, List.set_cons_zero, List.set_cons_succ]
                  refine wpAnyH_take (i := 17) (oi := { dst := some 63, op := Op.indexAddr 22 (Operand.tmp 61) (Operand.tmp 62), type := 0, pos := "same.go:90", after := #[{ on := 15, ground := Ground.data }, { on := 16, ground := Ground.data }, { on := 13, ground := Ground.guard }], guard := some (13, false) }) (v := ?_) rfl (by kernel_rfl) (by kernel_rfl) (by kernel_rfl) (fun _ _ _ h => h) (Or.inl ⟨by rfl, ?_⟩) (by trivial) ?_
                  rotate_left
                  (focus (intro w9 hSw; obtain ⟨s9, t9⟩ := hSw; obtain ⟨lt, c0, c1, c2_, c3⟩ := s9.cells; obtain ⟨lt2, g0, g1, g2, g3⟩ := t9.cells; obtain ⟨p0, p1⟩ := sh_at s9.z.s j hlt; obtain ⟨r0, r1⟩ := sh_at t9.z.s j hlt2; go_simp <;> with_reducible rfl))
                  try simp only [Act.put, List.setIfInBounds_toArray, List.set_cons_zero, List.set_cons_succ]
                  refine wpAnyH_take (i := 18) (oi := { dst := some 64, op := Op.fieldAddr 29 (Operand.tmp 63) 1, type := 0, pos := "same.go:90", after := #[{ on := 17, ground := Ground.data }, { on := 13, ground := Ground.guard }], guard := some (13, false) }) (v := ?_) rfl (by kernel_rfl) (by kernel_rfl) (by kernel_rfl) (fun _ _ _ h => h) (Or.inl ⟨by rfl, ?_⟩) (by trivial) ?_
                  rotate_left
                  (focus (intro w9 hSw; obtain ⟨s9, t9⟩ := hSw; obtain ⟨lt, c0, c1, c2_, c3⟩ := s9.cells; obtain ⟨lt2, g0, g1, g2, g3⟩ := t9.cells; obtain ⟨p0, p1⟩ := sh_at s9.z.s j hlt; obtain ⟨r0, r1⟩ := sh_at t9.z.s j hlt2; go_simp <;> with_reducible rfl))
                  try simp only [Act.put, List.setIfInBounds_toArray, List.set_cons_zero, List.set_cons_succ]
                  refine wpAnyH_take (i := 19) (oi := { dst := some 65, op := Op.load 3 (Operand.tmp 64), type := 3, pos := "same.go:90", after := #[{ on := 18, ground := Ground.data }, { on := 13, ground := Ground.guard }], guard := some (13, false) }) (v := ?_) rfl (by kernel_rfl) (by kernel_rfl) (by kernel_rfl) (fun _ _ _ h => h) (Or.inl ⟨by rfl, ?_⟩) (by trivial) ?_
                  rotate_left
                  (focus (intro w9 hSw; obtain ⟨s9, t9⟩ := hSw; obtain ⟨lt, c0, c1, c2_, c3⟩ := s9.cells; obtain ⟨lt2, g0, g1, g2, g3⟩ := t9.cells; obtain ⟨p0, p1⟩ := sh_at s9.z.s j hlt; obtain ⟨r0, r1⟩ := sh_at t9.z.s j hlt2; go_simp <;> with_reducible rfl))
                  try simp only [Act.put, List.setIfInBounds_toArray, List.set_cons_zero, List.set_cons_succ]
                  refine wpAnyH_take (i := 20) (oi := { dst := some 66, op := Op.fieldAddr 25 (Operand.tmp 3) 1, type := 0, pos := "same.go:90", after := #[{ on := 13, ground := Ground.guard }], guard := some (13, false) }) (v := ?_) rfl (by kernel_rfl) (by kernel_rfl) (by kernel_rfl) (fun _ _ _ h => h) (Or.inl ⟨by rfl, ?_⟩) (by trivial) ?_
                  rotate_left
                  (focus (intro w9 hSw; obtain ⟨s9, t9⟩ := hSw; obtain ⟨lt, c0, c1, c2_, c3⟩ := s9.cells; obtain ⟨lt2, g0, g1, g2, g3⟩ := t9.cells; obtain ⟨p0, p1⟩ := sh_at s9.z.s j hlt; obtain ⟨r0, r1⟩ := sh_at t9.z.s j hlt2; go_simp <;> with_reducible rfl))
                  try simp only [Act.put, List.setIfInBounds_toArray, List.set_cons_zero, List.set_cons_succ]
                  refine wpAnyH_take (i := 21) (oi := { dst := some 67, op := Op.load 22 (Operand.tmp 66), type := 22, pos := "same.go:90", after := #[{ on := 20, ground := Ground.data }, { on := 13, ground := Ground.guard }], guard := some (13, false) }) (v := ?_) rfl (by kernel_rfl) (by kernel_rfl) (by kernel_rfl) (fun _ _ _ h => h) (Or.inl ⟨by rfl, ?_⟩) (by trivial) ?_
                  rotate_left
                  (focus (intro w9 hSw; obtain ⟨s9, t9⟩ := hSw; obtain ⟨lt, c0, c1, c2_, c3⟩ := s9.cells; obtain ⟨lt2, g0, g1, g2, g3⟩ := t9.cells; obtain ⟨p0, p1⟩ := sh_at s9.z.s j hlt; obtain ⟨r0, r1⟩ := sh_at t9.z.s j hlt2; go_simp <;> with_reducible rfl))
                  try simp only [Act.put, List.setIfInBounds_toArray, List.set_cons_zero, List.set_cons_succ]
                  refine wpAnyH_take (i := 22) (oi := { dst := some 68, op := Op.move (Operand.tmp 5), type := 3, pos := "same.go:90", after := #[{ on := 13, ground := Ground.guard }], guard := some (13, false) }) (v := ?_) rfl (by kernel_rfl) (by kernel_rfl) (by kernel_rfl) (fun _ _ _ h => h) (Or.inl ⟨by rfl, ?_⟩) (by trivial) ?_
                  rotate_left
                  (focus (intro w9 hSw; obtain ⟨s9, t9⟩ := hSw; obtain ⟨lt, c0, c1, c2_, c3⟩ := s9.cells; obtain ⟨lt2, g0, g1, g2, g3⟩ := t9.cells; obtain ⟨p0, p1⟩ := sh_at s9.z.s j hlt; obtain ⟨r0, r1⟩ := sh_at t9.z.s j hlt2; go_simp <;> with_reducible rfl))
                  try simp only [Act.put, List.setIfInBounds_toArray, List.set_cons_zero, List.set_cons_succ]
                  refine wpAnyH_take (i := 23) (oi := { dst := some 69, op := Op.indexAddr 22 (Operand.tmp 67) (Operand.tmp 68), type := 0, pos := "same.go:90", after := #[{ on := 21, ground := Ground.data }, { on := 22, ground := Ground.data }, { on := 13, ground := Ground.guard }], guard := some (13, false) }) (v := ?_) rfl (by kernel_rfl) (by kernel_rfl) (by kernel_rfl) (fun _ _ _ h => h) (Or.inl ⟨by rfl, ?_⟩) (by trivial) ?_
                  rotate_left
                  (focus (intro w9 hSw; obtain ⟨s9, t9⟩ := hSw; obtain ⟨lt, c0, c1, c2_, c3⟩ := s9.cells; obtain ⟨lt2, g0, g1, g2, g3⟩ := t9.cells; obtain ⟨p0, p1⟩ := sh_at s9.z.s j hlt; obtain ⟨r0, r1⟩ := sh_at t9.z.s j hlt2; go_simp <;> with_reducible rfl))
                  try simp only [Act.put, List.setIfInBounds_toArray, List.set_cons_zero, List.set_cons_succ]
                  refine wpAnyH_take (i := 24) (oi := { dst := some 70, op := Op.fieldAddr 29 (Operand.tmp 69) 1, type := 0, pos := "same.go:90", after := #[{ on := 23, ground := Ground.data }, { on := 13, ground := Ground.guard }], guard := some (13, false) }) (v := ?_) rfl (by kernel_rfl) (by kernel_rfl) (by kernel_rfl) (fun _ _ _ h => h) (Or.inl ⟨by rfl, ?_⟩) (by trivial) ?_
                  rotate_left
                  (focus (intro w9 hSw; obtain ⟨s9, t9⟩ := hSw; obtain ⟨lt, c0, c1, c2_, c3⟩ := s9.cells; obtain ⟨lt2, g0, g1, g2, g3⟩ := t9.cells; obtain ⟨p0, p1⟩ := sh_at s9.z.s j hlt; obtain ⟨r0, r1⟩ := sh_at t9.z.s j hlt2; go_simp <;> with_reducible rfl))
                  try simp only [Act.put, List.setIfInBounds_toArray, List.set_cons_zero, List.set_cons_succ]
                  refine wpAnyH_take (i := 25) (oi := { dst := some 71, op := Op.load 3 (Operand.tmp 70), type := 3, pos := "same.go:90", after := #[{ on := 24, ground := Ground.data }, { on := 13, ground := Ground.guard }], guard := some (13, false) }) (v := ?_) rfl (by kernel_rfl) (by kernel_rfl) (by kernel_rfl) (fun _ _ _ h => h) (Or.inl ⟨by rfl, ?_⟩) (by trivial) ?_
                  rotate_left
                  (focus (intro w9 hSw; obtain ⟨s9, t9⟩ := hSw; obtain ⟨lt, c0, c1, c2_, c3⟩ := s9.cells; obtain ⟨lt2, g0, g1, g2, g3⟩ := t9.cells; obtain ⟨p0, p1⟩ := sh_at s9.z.s j hlt; obtain ⟨r0, r1⟩ := sh_at t9.z.s j hlt2; go_simp <;> with_reducible rfl))
                  try simp only [Act.put, List.setIfInBounds_toArray, List.set_cons_zero, List.set_cons_succ]
                  refine wpAnyH_take (i := 26) (oi := { dst := some 72, op := Op.binOp BinOp.neq 3 (Operand.tmp 65) (Operand.tmp 71) 3, type := 4, pos := "same.go:90", after := #[{ on := 19, ground := Ground.data }, { on := 25, ground := Ground.data }, { on := 13, ground := Ground.guard }], guard := some (13, false) }) (v := ?_) rfl (by kernel_rfl) (by kernel_rfl) (by kernel_rfl) (fun _ _ _ h => h) (Or.inl ⟨by rfl, ?_⟩) (by trivial) ?_
                  rotate_left
                  (focus (intro w9 hSw; obtain ⟨s9, t9⟩ := hSw; obtain ⟨lt, c0, c1, c2_, c3⟩ := s9.cells; obtain ⟨lt2, g0, g1, g2, g3⟩ := t9.cells; obtain ⟨p0, p1⟩ := sh_at s9.z.s j hlt; obtain ⟨r0, r1⟩ := sh_at t9.z.s j hlt2; go_simp <;> with_reducible rfl))
                  try simp only [Act.put, List.setIfInBounds_toArray, List.set_cons_zero, List.set_cons_succ]
                  refine wpAnyH_take (i := 27) (oi := { dst := some 73, op := Op.pick (Operand.tmp 59) (Operand.const (Value.bool true)) (Operand.tmp 72), type := 4, pos := "same.go:90", after := #[{ on := 13, ground := Ground.data }, { on := 26, ground := Ground.data }], guard := none }) (v := ?_) rfl (by kernel_rfl) (by kernel_rfl) (by kernel_rfl) (fun _ _ _ h => h) (Or.inl ⟨by rfl, ?_⟩) (by trivial) ?_
                  rotate_left
                  (focus (intro w9 hSw; obtain ⟨s9, t9⟩ := hSw; obtain ⟨lt, c0, c1, c2_, c3⟩ := s9.cells; obtain ⟨lt2, g0, g1, g2, g3⟩ := t9.cells; obtain ⟨p0, p1⟩ := sh_at s9.z.s j hlt; obtain ⟨r0, r1⟩ := sh_at t9.z.s j hlt2; go_simp <;> with_reducible rfl))
                  try simp only [Act.put, List.setIfInBounds_toArray, List.set_cons_zero, List.set_cons_succ]
                  refine wpAnyH_done (by kernel_rfl) ?_ _
                  go_wp2_with fail
                  go_roundw
                  case rel => exact ⟨j + 1, by omega, by simp, hnx.out, s, s2⟩
                  case measure => simp [intOf]; omega
                · have hn := Lib.hid (show sameB bs L Y fr bs L2 Y2 fr = false from decide_eq_false fun h => q2 (by
                    have h1 : L[j]? = L2[j]? := by rw [h.2.2.1]
                    rw [List.getElem?_eq_getElem hlt, List.getElem?_eq_getElem hlt2] at h1
                    injection h1 with h1
                    rw [h1]))
                  have t1 : (L[j].at_ != L2[j].at_) = false := by simpa using q1
                  have t2 : (L[j].off != L2[j].off) = true := by simpa using q2
                  clear q1 q2
                  refine wp_region_held_drew (S := fun w9 => Sn w w9 w.heap.size bs (some ad) n1 c A' n2 c' fr L Y ∧ Sn w w9 (w.heap.size + 1) bs (some ad2) n1 c2 A2' n2 c2' fr L2 Y2) (by kernel_rfl) ⟨s, s2⟩ (fun _ => ?_)
                  refine wpAnyH_take (i := 0) (oi := { dst := some 46, op := Op.fieldAddr 25 (Operand.tmp 2) 1, type := 0, pos := "same.go:90", after := #[], guard := none }) (v := ?_) rfl (by kernel_rfl) (by kernel_rfl) (by kernel_rfl) (fun _ _ _ h => h) (Or.inl ⟨by rfl, ?_⟩) (by trivial) ?_
                  rotate_left
                  (focus (intro w9 hSw; obtain ⟨s9, t9⟩ := hSw; obtain ⟨lt, c0, c1, c2_, c3⟩ := s9.cells; obtain ⟨lt2, g0, g1, g2, g3⟩ := t9.cells; obtain ⟨p0, p1⟩ := sh_at s9.z.s j hlt; obtain ⟨r0, r1⟩ := sh_at t9.z.s j hlt2; go_simp <;> with_reducible rfl))
                  try simp only [Act.put, List.setIfInBounds_toArray, List.set_cons_zero, List.set_cons_succ]
                  refine wpAnyH_take (i := 1) (oi := { dst := some 47, op := Op.load 22 (Operand.tmp 46), type := 22, pos := "same.go:90", after := #[{ on := 0, ground := Ground.data }], guard := none }) (v := ?_) rfl (by kernel_rfl) (by kernel_rfl) (by kernel_rfl) (fun _ _ _ h => h) (Or.inl ⟨by rfl, ?_⟩) (by trivial) ?_
                  rotate_left
                  (focus (intro w9 hSw; obtain ⟨s9, t9⟩ := hSw; obtain ⟨lt, c0, c1, c2_, c3⟩ := s9.cells; obtain ⟨lt2, g0, g1, g2, g3⟩ := t9.cells; obtain ⟨p0, p1⟩ := sh_at s9.z.s j hlt; obtain ⟨r0, r1⟩ := sh_at t9.z.s j hlt2; go_simp <;> with_reducible rfl))
                  try simp only [Act.put, List.setIfInBounds_toArray, List.set_cons_zero, List.set_cons_succ]
                  refine wpAnyH_take (i := 2) (oi := { dst := some 48, op := Op.move (Operand.tmp 5), type := 3, pos := "same.go:90", after := #[], guard := none }) (v := ?_) rfl (by kernel_rfl) (by kernel_rfl) (by kernel_rfl) (fun _ _ _ h => h) (Or.inl ⟨by rfl, ?_⟩) (by trivial) ?_
                  rotate_left
                  (focus (intro w9 hSw; obtain ⟨s9, t9⟩ := hSw; obtain ⟨lt, c0, c1, c2_, c3⟩ := s9.cells; obtain ⟨lt2, g0, g1, g2, g3⟩ := t9.cells; obtain ⟨p0, p1⟩ := sh_at s9.z.s j hlt; obtain ⟨r0, r1⟩ := sh_at t9.z.s j hlt2; go_simp <;> with_reducible rfl))
                  try simp only [Act.put, List.setIfInBounds_toArray, List.set_cons_zero, List.set_cons_succ]
                  refine wpAnyH_take (i := 3) (oi := { dst := some 49, op := Op.indexAddr 22 (Operand.tmp 47) (Operand.tmp 48), type := 0, pos := "same.go:90", after := #[{ on := 1, ground := Ground.data }, { on := 2, ground := Ground.data }], guard := none }) (v := ?_) rfl (by kernel_rfl) (by kernel_rfl) (by kernel_rfl) (fun _ _ _ h => h) (Or.inl ⟨by rfl, ?_⟩) (by trivial) ?_
                  rotate_left
                  (focus (intro w9 hSw; obtain ⟨s9, t9⟩ := hSw; obtain ⟨lt, c0, c1, c2_, c3⟩ := s9.cells; obtain ⟨lt2, g0, g1, g2, g3⟩ := t9.cells; obtain ⟨p0, p1⟩ := sh_at s9.z.s j hlt; obtain ⟨r0, r1⟩ := sh_at t9.z.s j hlt2; go_simp <;> with_reducible rfl))
                  try simp only [Act.put, List.setIfInBounds_toArray, List.set_cons_zero, List.set_cons_succ]
                  refine wpAnyH_take (i := 4) (oi := { dst := some 50, op := Op.fieldAddr 29 (Operand.tmp 49) 0, type := 0, pos := "same.go:90", after := #[{ on := 3, ground := Ground.data }], guard := none }) (v := ?_) rfl (by kernel_rfl) (by kernel_rfl) (by kernel_rfl) (fun _ _ _ h => h) (Or.inl ⟨by rfl, ?_⟩) (by trivial) ?_
                  rotate_left
                  (focus (intro w9 hSw; obtain ⟨s9, t9⟩ := hSw; obtain ⟨lt, c0, c1, c2_, c3⟩ := s9.cells; obtain ⟨lt2, g0, g1, g2, g3⟩ := t9.cells; obtain ⟨p0, p1⟩ := sh_at s9.z.s j hlt; obtain ⟨r0, r1⟩ := sh_at t9.z.s j hlt2; go_simp <;> with_reducible rfl))
                  try simp only [Act.put, List.setIfInBounds_toArray, List.set_cons_zero, List.set_cons_succ]
                  refine wpAnyH_take (i := 5) (oi := { dst := some 51, op := Op.load 3 (Operand.tmp 50), type := 3, pos := "same.go:90", after := #[{ on := 4, ground := Ground.data }], guard := none }) (v := ?_) rfl (by kernel_rfl) (by kernel_rfl) (by kernel_rfl) (fun _ _ _ h => h) (Or.inl ⟨by rfl, ?_⟩) (by trivial) ?_
                  rotate_left
                  (focus (intro w9 hSw; obtain ⟨s9, t9⟩ := hSw; obtain ⟨lt, c0, c1, c2_, c3⟩ := s9.cells; obtain ⟨lt2, g0, g1, g2, g3⟩ := t9.cells; obtain ⟨p0, p1⟩ := sh_at s9.z.s j hlt; obtain ⟨r0, r1⟩ := sh_at t9.z.s j hlt2; go_simp <;> with_reducible rfl))
                  try simp only [Act.put, List.setIfInBounds_toArray, List.set_cons_zero, List.set_cons_succ]
                  refine wpAnyH_take (i := 6) (oi := { dst := some 52, op := Op.fieldAddr 25 (Operand.tmp 3) 1, type := 0, pos := "same.go:90", after := #[], guard := none }) (v := ?_) rfl (by kernel_rfl) (by kernel_rfl) (by kernel_rfl) (fun _ _ _ h => h) (Or.inl ⟨by rfl, ?_⟩) (by trivial) ?_
                  rotate_left
                  (focus (intro w9 hSw; obtain ⟨s9, t9⟩ := hSw; obtain ⟨lt, c0, c1, c2_, c3⟩ := s9.cells; obtain ⟨lt2, g0, g1, g2, g3⟩ := t9.cells; obtain ⟨p0, p1⟩ := sh_at s9.z.s j hlt; obtain ⟨r0, r1⟩ := sh_at t9.z.s j hlt2; go_simp <;> with_reducible rfl))
                  try simp only [Act.put, List.setIfInBounds_toArray, List.set_cons_zero, List.set_cons_succ]
                  refine wpAnyH_take (i := 7) (oi := { dst := some 53, op := Op.load 22 (Operand.tmp 52), type := 22, pos := "same.go:90", after := #[{ on := 6, ground := Ground.data }], guard := none }) (v := ?_) rfl (by kernel_rfl) (by kernel_rfl) (by kernel_rfl) (fun _ _ _ h => h) (Or.inl ⟨by rfl, ?_⟩) (by trivial) ?_
                  rotate_left
                  (focus (intro w9 hSw; obtain ⟨s9, t9⟩ := hSw; obtain ⟨lt, c0, c1, c2_, c3⟩ := s9.cells; obtain ⟨lt2, g0, g1, g2, g3⟩ := t9.cells; obtain ⟨p0, p1⟩ := sh_at s9.z.s j hlt; obtain ⟨r0, r1⟩ := sh_at t9.z.s j hlt2; go_simp <;> with_reducible rfl))
                  try simp only [Act.put, List.setIfInBounds_toArray, List.set_cons_zero, List.set_cons_succ]
                  refine wpAnyH_take (i := 8) (oi := { dst := some 54, op := Op.move (Operand.tmp 5), type := 3, pos := "same.go:90", after := #[], guard := none }) (v := ?_) rfl (by kernel_rfl) (by kernel_rfl) (by kernel_rfl) (fun _ _ _ h => h) (Or.inl ⟨by rfl, ?_⟩) (by trivial) ?_
                  rotate_left
                  (focus (intro w9 hSw; obtain ⟨s9, t9⟩ := hSw; obtain ⟨lt, c0, c1, c2_, c3⟩ := s9.cells; obtain ⟨lt2, g0, g1, g2, g3⟩ := t9.cells; obtain ⟨p0, p1⟩ := sh_at s9.z.s j hlt; obtain ⟨r0, r1⟩ := sh_at t9.z.s j hlt2; go_simp <;> with_reducible rfl))
                  try simp only [Act.put, List.setIfInBounds_toArray, List.set_cons_zero, List.set_cons_succ]
                  refine wpAnyH_take (i := 9) (oi := { dst := some 55, op := Op.indexAddr 22 (Operand.tmp 53) (Operand.tmp 54), type := 0, pos := "same.go:90", after := #[{ on := 7, ground := Ground.data }, { on := 8, ground := Ground.data }], guard := none }) (v := ?_) rfl (by kernel_rfl) (by kernel_rfl) (by kernel_rfl) (fun _ _ _ h => h) (Or.inl ⟨by rfl, ?_⟩) (by trivial) ?_
                  rotate_left
                  (focus (intro w9 hSw; obtain ⟨s9, t9⟩ := hSw; obtain ⟨lt, c0, c1, c2_, c3⟩ := s9.cells; obtain ⟨lt2, g0, g1, g2, g3⟩ := t9.cells; obtain ⟨p0, p1⟩ := sh_at s9.z.s j hlt; obtain ⟨r0, r1⟩ := sh_at t9.z.s j hlt2; go_simp <;> with_reducible rfl))
                  try simp only [Act.put, List.setIfInBounds_toArray, List.set_cons_zero, List.set_cons_succ]
                  refine wpAnyH_take (i := 10) (oi := { dst := some 56, op := Op.fieldAddr 29 (Operand.tmp 55) 0, type := 0, pos := "same.go:90", after := #[{ on := 9, ground := Ground.data }], guard := none }) (v := ?_) rfl (by kernel_rfl) (by kernel_rfl) (by kernel_rfl) (fun _ _ _ h => h) (Or.inl ⟨by rfl, ?_⟩) (by trivial) ?_
                  rotate_left
                  (focus (intro w9 hSw; obtain ⟨s9, t9⟩ := hSw; obtain ⟨lt, c0, c1, c2_, c3⟩ := s9.cells; obtain ⟨lt2, g0, g1, g2, g3⟩ := t9.cells; obtain ⟨p0, p1⟩ := sh_at s9.z.s j hlt; obtain ⟨r0, r1⟩ := sh_at t9.z.s j hlt2; go_simp <;> with_reducible rfl))
                  try simp only [Act.put, List.setIfInBounds_toArray, List.set_cons_zero, List.set_cons_succ]
                  refine wpAnyH_take (i := 11) (oi := { dst := some 57, op := Op.load 3 (Operand.tmp 56), type := 3, pos := "same.go:90", after := #[{ on := 10, ground := Ground.data }], guard := none }) (v := ?_) rfl (by kernel_rfl) (by kernel_rfl) (by kernel_rfl) (fun _ _ _ h => h) (Or.inl ⟨by rfl, ?_⟩) (by trivial) ?_
                  rotate_left
                  (focus (intro w9 hSw; obtain ⟨s9, t9⟩ := hSw; obtain ⟨lt, c0, c1, c2_, c3⟩ := s9.cells; obtain ⟨lt2, g0, g1, g2, g3⟩ := t9.cells; obtain ⟨p0, p1⟩ := sh_at s9.z.s j hlt; obtain ⟨r0, r1⟩ := sh_at t9.z.s j hlt2; go_simp <;> with_reducible rfl))
                  try simp only [Act.put, List.setIfInBounds_toArray, List.set_cons_zero, List.set_cons_succ]
                  refine wpAnyH_take (i := 12) (oi := { dst := some 58, op := Op.binOp BinOp.neq 3 (Operand.tmp 51) (Operand.tmp 57) 3, type := 4, pos := "same.go:90", after := #[{ on := 5, ground := Ground.data }, { on := 11, ground := Ground.data }], guard := none }) (v := ?_) rfl (by kernel_rfl) (by kernel_rfl) (by kernel_rfl) (fun _ _ _ h => h) (Or.inl ⟨by rfl, ?_⟩) (by trivial) ?_
                  rotate_left
                  (focus (intro w9 hSw; obtain ⟨s9, t9⟩ := hSw; obtain ⟨lt, c0, c1, c2_, c3⟩ := s9.cells; obtain ⟨lt2, g0, g1, g2, g3⟩ := t9.cells; obtain ⟨p0, p1⟩ := sh_at s9.z.s j hlt; obtain ⟨r0, r1⟩ := sh_at t9.z.s j hlt2; go_simp <;> with_reducible rfl))
                  try simp only [Act.put, List.setIfInBounds_toArray, List.set_cons_zero, List.set_cons_succ]
                  refine wpAnyH_take (i := 13) (oi := { dst := some 59, op := Op.move (Operand.tmp 58), type := 4, pos := "same.go:90", after := #[{ on := 12, ground := Ground.data }], guard := none }) (v := ?_) rfl (by kernel_rfl) (by kernel_rfl) (by kernel_rfl) (fun _ _ _ h => h) (Or.inl ⟨by rfl, ?_⟩) (by trivial) ?_
                  rotate_left
                  (focus (intro w9 hSw; obtain ⟨s9, t9⟩ := hSw; obtain ⟨lt, c0, c1, c2_, c3⟩ := s9.cells; obtain ⟨lt2, g0, g1, g2, g3⟩ := t9.cells; obtain ⟨p0, p1⟩ := sh_at s9.z.s j hlt; obtain ⟨r0, r1⟩ := sh_at t9.z.s j hlt2; go_simp <;> with_reducible rfl))
                  try simp only [Act.put, List.setIfInBounds_toArray, List.set_cons_zero, List.set_cons_succ]
                  refine wpAnyH_take (i := 14) (oi := { dst := some 60, op := Op.fieldAddr 25 (Operand.tmp 2) 1, type := 0, pos := "same.go:90", after := #[{ on := 13, ground := Ground.guard }], guard := some (13, false) }) (v := ?_) rfl (by kernel_rfl) (by kernel_rfl) (by kernel_rfl) (fun _ _ _ h => h) (Or.inl ⟨by rfl, ?_⟩) (by trivial) ?_
                  rotate_left
                  (focus (intro w9 hSw; obtain ⟨s9, t9⟩ := hSw; obtain ⟨lt, c0, c1, c2_, c3⟩ := s9.cells; obtain ⟨lt2, g0, g1, g2, g3⟩ := t9.cells; obtain ⟨p0, p1⟩ := sh_at s9.z.s j hlt; obtain ⟨r0, r1⟩ := sh_at t9.z.s j hlt2; go_simp <;> with_reducible rfl))
                  try simp only [Act.put, List.setIfInBounds_toArray, List.set_cons_zero, List.set_cons_succ]
                  refine wpAnyH_take (i := 15) (oi := { dst := some 61, op := Op.load 22 (Operand.tmp 60), type := 22, pos := "same.go:90", after := #[{ on := 14, ground := Ground.data }, { on := 13, ground := Ground.guard }], guard := some (13, false) }) (v := ?_) rfl (by kernel_rfl) (by kernel_rfl) (by kernel_rfl) (fun _ _ _ h => h) (Or.inl ⟨by rfl, ?_⟩) (by trivial) ?_
                  rotate_left
                  (focus (intro w9 hSw; obtain ⟨s9, t9⟩ := hSw; obtain ⟨lt, c0, c1, c2_, c3⟩ := s9.cells; obtain ⟨lt2, g0, g1, g2, g3⟩ := t9.cells; obtain ⟨p0, p1⟩ := sh_at s9.z.s j hlt; obtain ⟨r0, r1⟩ := sh_at t9.z.s j hlt2; go_simp <;> with_reducible rfl))
                  try simp only [Act.put, List.setIfInBounds_toArray, List.set_cons_zero, List.set_cons_succ]
                  refine wpAnyH_take (i := 16) (oi := { dst := some 62, op := Op.move (Operand.tmp 5), type := 3, pos := "same.go:90", after := #[{ on := 13, ground := Ground.guard }], guard := some (13, false) }) (v := ?_) rfl (by kernel_rfl) (by kernel_rfl) (by kernel_rfl) (fun _ _ _ h => h) (Or.inl ⟨by rfl, ?_⟩) (by trivial) ?_
                  rotate_left
                  (focus (intro w9 hSw; obtain ⟨s9, t9⟩ := hSw; obtain ⟨lt, c0, c1, c2_, c3⟩ := s9.cells; obtain ⟨lt2, g0, g1, g2, g3⟩ := t9.cells; obtain ⟨p0, p1⟩ := sh_at s9.z.s j hlt; obtain ⟨r0, r1⟩ := sh_at t9.z.s j hlt2; go_simp <;> with_reducible rfl))
                  try simp only [Act.put, List.setIfInBounds_toArray, List.set_cons_zero, List.set_cons_succ]
                  refine wpAnyH_take (i := 17) (oi := { dst := some 63, op := Op.indexAddr 22 (Operand.tmp 61) (Operand.tmp 62), type := 0, pos := "same.go:90", after := #[{ on := 15, ground := Ground.data }, { on := 16, ground := Ground.data }, { on := 13, ground := Ground.guard }], guard := some (13, false) }) (v := ?_) rfl (by kernel_rfl) (by kernel_rfl) (by kernel_rfl) (fun _ _ _ h => h) (Or.inl ⟨by rfl, ?_⟩) (by trivial) ?_
                  rotate_left
                  (focus (intro w9 hSw; obtain ⟨s9, t9⟩ := hSw; obtain ⟨lt, c0, c1, c2_, c3⟩ := s9.cells; obtain ⟨lt2, g0, g1, g2, g3⟩ := t9.cells; obtain ⟨p0, p1⟩ := sh_at s9.z.s j hlt; obtain ⟨r0, r1⟩ := sh_at t9.z.s j hlt2; go_simp <;> with_reducible rfl))
                  try simp only [Act.put, List.setIfInBounds_toArray, List.set_cons_zero, List.set_cons_succ]
                  refine wpAnyH_take (i := 18) (oi := { dst := some 64, op := Op.fieldAddr 29 (Operand.tmp 63) 1, type := 0, pos := "same.go:90", after := #[{ on := 17, ground := Ground.data }, { on := 13, ground := Ground.guard }], guard := some (13, false) }) (v := ?_) rfl (by kernel_rfl) (by kernel_rfl) (by kernel_rfl) (fun _ _ _ h => h) (Or.inl ⟨by rfl, ?_⟩) (by trivial) ?_
                  rotate_left
                  (focus (intro w9 hSw; obtain ⟨s9, t9⟩ := hSw; obtain ⟨lt, c0, c1, c2_, c3⟩ := s9.cells; obtain ⟨lt2, g0, g1, g2, g3⟩ := t9.cells; obtain ⟨p0, p1⟩ := sh_at s9.z.s j hlt; obtain ⟨r0, r1⟩ := sh_at t9.z.s j hlt2; go_simp <;> with_reducible rfl))
                  try simp only [Act.put, List.setIfInBounds_toArray, List.set_cons_zero, List.set_cons_succ]
                  refine wpAnyH_take (i := 19) (oi := { dst := some 65, op := Op.load 3 (Operand.tmp 64), type := 3, pos := "same.go:90", after := #[{ on := 18, ground := Ground.data }, { on := 13, ground := Ground.guard }], guard := some (13, false) }) (v := ?_) rfl (by kernel_rfl) (by kernel_rfl) (by kernel_rfl) (fun _ _ _ h => h) (Or.inl ⟨by rfl, ?_⟩) (by trivial) ?_
                  rotate_left
                  (focus (intro w9 hSw; obtain ⟨s9, t9⟩ := hSw; obtain ⟨lt, c0, c1, c2_, c3⟩ := s9.cells; obtain ⟨lt2, g0, g1, g2, g3⟩ := t9.cells; obtain ⟨p0, p1⟩ := sh_at s9.z.s j hlt; obtain ⟨r0, r1⟩ := sh_at t9.z.s j hlt2; go_simp <;> with_reducible rfl))
                  try simp only [Act.put, List.setIfInBounds_toArray, List.set_cons_zero, List.set_cons_succ]
                  refine wpAnyH_take (i := 20) (oi := { dst := some 66, op := Op.fieldAddr 25 (Operand.tmp 3) 1, type := 0, pos := "same.go:90", after := #[{ on := 13, ground := Ground.guard }], guard := some (13, false) }) (v := ?_) rfl (by kernel_rfl) (by kernel_rfl) (by kernel_rfl) (fun _ _ _ h => h) (Or.inl ⟨by rfl, ?_⟩) (by trivial) ?_
                  rotate_left
                  (focus (intro w9 hSw; obtain ⟨s9, t9⟩ := hSw; obtain ⟨lt, c0, c1, c2_, c3⟩ := s9.cells; obtain ⟨lt2, g0, g1, g2, g3⟩ := t9.cells; obtain ⟨p0, p1⟩ := sh_at s9.z.s j hlt; obtain ⟨r0, r1⟩ := sh_at t9.z.s j hlt2; go_simp <;> with_reducible rfl))
                  try simp only [Act.put, List.setIfInBounds_toArray, List.set_cons_zero, List.set_cons_succ]
                  refine wpAnyH_take (i := 21) (oi := { dst := some 67, op := Op.load 22 (Operand.tmp 66), type := 22, pos := "same.go:90", after := #[{ on := 20, ground := Ground.data }, { on := 13, ground := Ground.guard }], guard := some (13, false) }) (v := ?_) rfl (by kernel_rfl) (by kernel_rfl) (by kernel_rfl) (fun _ _ _ h => h) (Or.inl ⟨by rfl, ?_⟩) (by trivial) ?_
                  rotate_left
                  (focus (intro w9 hSw; obtain ⟨s9, t9⟩ := hSw; obtain ⟨lt, c0, c1, c2_, c3⟩ := s9.cells; obtain ⟨lt2, g0, g1, g2, g3⟩ := t9.cells; obtain ⟨p0, p1⟩ := sh_at s9.z.s j hlt; obtain ⟨r0, r1⟩ := sh_at t9.z.s j hlt2; go_simp <;> with_reducible rfl))
                  try simp only [Act.put, List.setIfInBounds_toArray, List.set_cons_zero, List.set_cons_succ]
                  refine wpAnyH_take (i := 22) (oi := { dst := some 68, op := Op.move (Operand.tmp 5), type := 3, pos := "same.go:90", after := #[{ on := 13, ground := Ground.guard }], guard := some (13, false) }) (v := ?_) rfl (by kernel_rfl) (by kernel_rfl) (by kernel_rfl) (fun _ _ _ h => h) (Or.inl ⟨by rfl, ?_⟩) (by trivial) ?_
                  rotate_left
                  (focus (intro w9 hSw; obtain ⟨s9, t9⟩ := hSw; obtain ⟨lt, c0, c1, c2_, c3⟩ := s9.cells; obtain ⟨lt2, g0, g1, g2, g3⟩ := t9.cells; obtain ⟨p0, p1⟩ := sh_at s9.z.s j hlt; obtain ⟨r0, r1⟩ := sh_at t9.z.s j hlt2; go_simp <;> with_reducible rfl))
                  try simp only [Act.put, List.setIfInBounds_toArray, List.set_cons_zero, List.set_cons_succ]
                  refine wpAnyH_take (i := 23) (oi := { dst := some 69, op := Op.indexAddr 22 (Operand.tmp 67) (Operand.tmp 68), type := 0, pos := "same.go:90", after := #[{ on := 21, ground := Ground.data }, { on := 22, ground := Ground.data }, { on := 13, ground := Ground.guard }], guard := some (13, false) }) (v := ?_) rfl (by kernel_rfl) (by kernel_rfl) (by kernel_rfl) (fun _ _ _ h => h) (Or.inl ⟨by rfl, ?_⟩) (by trivial) ?_
                  rotate_left
                  (focus (intro w9 hSw; obtain ⟨s9, t9⟩ := hSw; obtain ⟨lt, c0, c1, c2_, c3⟩ := s9.cells; obtain ⟨lt2, g0, g1, g2, g3⟩ := t9.cells; obtain ⟨p0, p1⟩ := sh_at s9.z.s j hlt; obtain ⟨r0, r1⟩ := sh_at t9.z.s j hlt2; go_simp <;> with_reducible rfl))
                  try simp only [Act.put, List.setIfInBounds_toArray, List.set_cons_zero, List.set_cons_succ]
                  refine wpAnyH_take (i := 24) (oi := { dst := some 70, op := Op.fieldAddr 29 (Operand.tmp 69) 1, type := 0, pos := "same.go:90", after := #[{ on := 23, ground := Ground.data }, { on := 13, ground := Ground.guard }], guard := some (13, false) }) (v := ?_) rfl (by kernel_rfl) (by kernel_rfl) (by kernel_rfl) (fun _ _ _ h => h) (Or.inl ⟨by rfl, ?_⟩) (by trivial) ?_
                  rotate_left
                  (focus (intro w9 hSw; obtain ⟨s9, t9⟩ := hSw; obtain ⟨lt, c0, c1, c2_, c3⟩ := s9.cells; obtain ⟨lt2, g0, g1, g2, g3⟩ := t9.cells; obtain ⟨p0, p1⟩ := sh_at s9.z.s j hlt; obtain ⟨r0, r1⟩ := sh_at t9.z.s j hlt2; go_simp <;> with_reducible rfl))
                  try simp only [Act.put, List.setIfInBounds_toArray, List.set_cons_zero, List.set_cons_succ]
                  refine wpAnyH_take (i := 25) (oi := { dst := some 71, op := Op.load 3 (Operand.tmp 70), type := 3, pos := "same.go:90", after := #[{ on := 24, ground := Ground.data }, { on := 13, ground := Ground.guard }], guard := some (13, false) }) (v := ?_) rfl (by kernel_rfl) (by kernel_rfl) (by kernel_rfl) (fun _ _ _ h => h) (Or.inl ⟨by rfl, ?_⟩) (by trivial) ?_
                  rotate_left
                  (focus (intro w9 hSw; obtain ⟨s9, t9⟩ := hSw; obtain ⟨lt, c0, c1, c2_, c3⟩ := s9.cells; obtain ⟨lt2, g0, g1, g2, g3⟩ := t9.cells; obtain ⟨p0, p1⟩ := sh_at s9.z.s j hlt; obtain ⟨r0, r1⟩ := sh_at t9.z.s j hlt2; go_simp <;> with_reducible rfl))
                  try simp only [Act.put, List.setIfInBounds_toArray, List.set_cons_zero, List.set_cons_succ]
                  refine wpAnyH_take (i := 26) (oi := { dst := some 72, op := Op.binOp BinOp.neq 3 (Operand.tmp 65) (Operand.tmp 71) 3, type := 4, pos := "same.go:90", after := #[{ on := 19, ground := Ground.data }, { on := 25, ground := Ground.data }, { on := 13, ground := Ground.guard }], guard := some (13, false) }) (v := ?_) rfl (by kernel_rfl) (by kernel_rfl) (by kernel_rfl) (fun _ _ _ h => h) (Or.inl ⟨by rfl, ?_⟩) (by trivial) ?_
                  rotate_left
                  (focus (intro w9 hSw; obtain ⟨s9, t9⟩ := hSw; obtain ⟨lt, c0, c1, c2_, c3⟩ := s9.cells; obtain ⟨lt2, g0, g1, g2, g3⟩ := t9.cells; obtain ⟨p0, p1⟩ := sh_at s9.z.s j hlt; obtain ⟨r0, r1⟩ := sh_at t9.z.s j hlt2; go_simp <;> with_reducible rfl))
                  try simp only [Act.put, List.setIfInBounds_toArray, List.set_cons_zero, List.set_cons_succ]
                  refine wpAnyH_take (i := 27) (oi := { dst := some 73, op := Op.pick (Operand.tmp 59) (Operand.const (Value.bool true)) (Operand.tmp 72), type := 4, pos := "same.go:90", after := #[{ on := 13, ground := Ground.data }, { on := 26, ground := Ground.data }], guard := none }) (v := ?_) rfl (by kernel_rfl) (by kernel_rfl) (by kernel_rfl) (fun _ _ _ h => h) (Or.inl ⟨by rfl, ?_⟩) (by trivial) ?_
                  rotate_left
                  (focus (intro w9 hSw; obtain ⟨s9, t9⟩ := hSw; obtain ⟨lt, c0, c1, c2_, c3⟩ := s9.cells; obtain ⟨lt2, g0, g1, g2, g3⟩ := t9.cells; obtain ⟨p0, p1⟩ := sh_at s9.z.s j hlt; obtain ⟨r0, r1⟩ := sh_at t9.z.s j hlt2; go_simp <;> with_reducible rfl))
                  try simp only [Act.put, List.setIfInBounds_toArray, List.set_cons_zero, List.set_cons_succ]
                  refine wpAnyH_done (by kernel_rfl) ?_ _
                  go_wp2_with fail
                  go_ret
                  exact ⟨by rw [hn.out]; rfl, s.b⟩
              · have hn := Lib.hid (show sameB bs L Y fr bs L2 Y2 fr = false from decide_eq_false fun h => q1 (by
                  have h1 : L[j]? = L2[j]? := by rw [h.2.2.1]
                  rw [List.getElem?_eq_getElem hlt, List.getElem?_eq_getElem hlt2] at h1
                  injection h1 with h1
                  rw [h1]))
                have t1 : (L[j].at_ != L2[j].at_) = true := by simpa using q1
                clear q1
                refine wp_region_held_drew (S := fun w9 => Sn w w9 w.heap.size bs (some ad) n1 c A' n2 c' fr L Y ∧ Sn w w9 (w.heap.size + 1) bs (some ad2) n1 c2 A2' n2 c2' fr L2 Y2) (by kernel_rfl) ⟨s, s2⟩ (fun _ => ?_)
                refine wpAnyH_take (i := 0) (oi := { dst := some 46, op := Op.fieldAddr 25 (Operand.tmp 2) 1, type := 0, pos := "same.go:90", after := #[], guard := none }) (v := ?_) rfl (by kernel_rfl) (by kernel_rfl) (by kernel_rfl) (fun _ _ _ h => h) (Or.inl ⟨by rfl, ?_⟩) (by trivial) ?_
                rotate_left
                (focus (intro w9 hSw; obtain ⟨s9, t9⟩ := hSw; obtain ⟨lt, c0, c1, c2_, c3⟩ := s9.cells; obtain ⟨lt2, g0, g1, g2, g3⟩ := t9.cells; obtain ⟨p0, p1⟩ := sh_at s9.z.s j hlt; obtain ⟨r0, r1⟩ := sh_at t9.z.s j hlt2; go_simp <;> with_reducible rfl))
                try simp only [Act.put, List.setIfInBounds_toArray, List.set_cons_zero, List.set_cons_succ]
                refine wpAnyH_take (i := 1) (oi := { dst := some 47, op := Op.load 22 (Operand.tmp 46), type := 22, pos := "same.go:90", after := #[{ on := 0, ground := Ground.data }], guard := none }) (v := ?_) rfl (by kernel_rfl) (by kernel_rfl) (by kernel_rfl) (fun _ _ _ h => h) (Or.inl ⟨by rfl, ?_⟩) (by trivial) ?_
                rotate_left
                (focus (intro w9 hSw; obtain ⟨s9, t9⟩ := hSw; obtain ⟨lt, c0, c1, c2_, c3⟩ := s9.cells; obtain ⟨lt2, g0, g1, g2, g3⟩ := t9.cells; obtain ⟨p0, p1⟩ := sh_at s9.z.s j hlt; obtain ⟨r0, r1⟩ := sh_at t9.z.s j hlt2; go_simp <;> with_reducible rfl))
                try simp only [Act.put, List.setIfInBounds_toArray, List.set_cons_zero, List.set_cons_succ]
                refine wpAnyH_take (i := 2) (oi := { dst := some 48, op := Op.move (Operand.tmp 5), type := 3, pos := "same.go:90", after := #[], guard := none }) (v := ?_) rfl (by kernel_rfl) (by kernel_rfl) (by kernel_rfl) (fun _ _ _ h => h) (Or.inl ⟨by rfl, ?_⟩) (by trivial) ?_
                rotate_left
                (focus (intro w9 hSw; obtain ⟨s9, t9⟩ := hSw; obtain ⟨lt, c0, c1, c2_, c3⟩ := s9.cells; obtain ⟨lt2, g0, g1, g2, g3⟩ := t9.cells; obtain ⟨p0, p1⟩ := sh_at s9.z.s j hlt; obtain ⟨r0, r1⟩ := sh_at t9.z.s j hlt2; go_simp <;> with_reducible rfl))
                try simp only [Act.put, List.setIfInBounds_toArray, List.set_cons_zero, List.set_cons_succ]
                refine wpAnyH_take (i := 3) (oi := { dst := some 49, op := Op.indexAddr 22 (Operand.tmp 47) (Operand.tmp 48), type := 0, pos := "same.go:90", after := #[{ on := 1, ground := Ground.data }, { on := 2, ground := Ground.data }], guard := none }) (v := ?_) rfl (by kernel_rfl) (by kernel_rfl) (by kernel_rfl) (fun _ _ _ h => h) (Or.inl ⟨by rfl, ?_⟩) (by trivial) ?_
                rotate_left
                (focus (intro w9 hSw; obtain ⟨s9, t9⟩ := hSw; obtain ⟨lt, c0, c1, c2_, c3⟩ := s9.cells; obtain ⟨lt2, g0, g1, g2, g3⟩ := t9.cells; obtain ⟨p0, p1⟩ := sh_at s9.z.s j hlt; obtain ⟨r0, r1⟩ := sh_at t9.z.s j hlt2; go_simp <;> with_reducible rfl))
                try simp only [Act.put, List.setIfInBounds_toArray, List.set_cons_zero, List.set_cons_succ]
                refine wpAnyH_take (i := 4) (oi := { dst := some 50, op := Op.fieldAddr 29 (Operand.tmp 49) 0, type := 0, pos := "same.go:90", after := #[{ on := 3, ground := Ground.data }], guard := none }) (v := ?_) rfl (by kernel_rfl) (by kernel_rfl) (by kernel_rfl) (fun _ _ _ h => h) (Or.inl ⟨by rfl, ?_⟩) (by trivial) ?_
                rotate_left
                (focus (intro w9 hSw; obtain ⟨s9, t9⟩ := hSw; obtain ⟨lt, c0, c1, c2_, c3⟩ := s9.cells; obtain ⟨lt2, g0, g1, g2, g3⟩ := t9.cells; obtain ⟨p0, p1⟩ := sh_at s9.z.s j hlt; obtain ⟨r0, r1⟩ := sh_at t9.z.s j hlt2; go_simp <;> with_reducible rfl))
                try simp only [Act.put, List.setIfInBounds_toArray, List.set_cons_zero, List.set_cons_succ]
                refine wpAnyH_take (i := 5) (oi := { dst := some 51, op := Op.load 3 (Operand.tmp 50), type := 3, pos := "same.go:90", after := #[{ on := 4, ground := Ground.data }], guard := none }) (v := ?_) rfl (by kernel_rfl) (by kernel_rfl) (by kernel_rfl) (fun _ _ _ h => h) (Or.inl ⟨by rfl, ?_⟩) (by trivial) ?_
                rotate_left
                (focus (intro w9 hSw; obtain ⟨s9, t9⟩ := hSw; obtain ⟨lt, c0, c1, c2_, c3⟩ := s9.cells; obtain ⟨lt2, g0, g1, g2, g3⟩ := t9.cells; obtain ⟨p0, p1⟩ := sh_at s9.z.s j hlt; obtain ⟨r0, r1⟩ := sh_at t9.z.s j hlt2; go_simp <;> with_reducible rfl))
                try simp only [Act.put, List.setIfInBounds_toArray, List.set_cons_zero, List.set_cons_succ]
                refine wpAnyH_take (i := 6) (oi := { dst := some 52, op := Op.fieldAddr 25 (Operand.tmp 3) 1, type := 0, pos := "same.go:90", after := #[], guard := none }) (v := ?_) rfl (by kernel_rfl) (by kernel_rfl) (by kernel_rfl) (fun _ _ _ h => h) (Or.inl ⟨by rfl, ?_⟩) (by trivial) ?_
                rotate_left
                (focus (intro w9 hSw; obtain ⟨s9, t9⟩ := hSw; obtain ⟨lt, c0, c1, c2_, c3⟩ := s9.cells; obtain ⟨lt2, g0, g1, g2, g3⟩ := t9.cells; obtain ⟨p0, p1⟩ := sh_at s9.z.s j hlt; obtain ⟨r0, r1⟩ := sh_at t9.z.s j hlt2; go_simp <;> with_reducible rfl))
                try simp only [Act.put, List.setIfInBounds_toArray, List.set_cons_zero, List.set_cons_succ]
                refine wpAnyH_take (i := 7) (oi := { dst := some 53, op := Op.load 22 (Operand.tmp 52), type := 22, pos := "same.go:90", after := #[{ on := 6, ground := Ground.data }], guard := none }) (v := ?_) rfl (by kernel_rfl) (by kernel_rfl) (by kernel_rfl) (fun _ _ _ h => h) (Or.inl ⟨by rfl, ?_⟩) (by trivial) ?_
                rotate_left
                (focus (intro w9 hSw; obtain ⟨s9, t9⟩ := hSw; obtain ⟨lt, c0, c1, c2_, c3⟩ := s9.cells; obtain ⟨lt2, g0, g1, g2, g3⟩ := t9.cells; obtain ⟨p0, p1⟩ := sh_at s9.z.s j hlt; obtain ⟨r0, r1⟩ := sh_at t9.z.s j hlt2; go_simp <;> with_reducible rfl))
                try simp only [Act.put, List.setIfInBounds_toArray, List.set_cons_zero, List.set_cons_succ]
                refine wpAnyH_take (i := 8) (oi := { dst := some 54, op := Op.move (Operand.tmp 5), type := 3, pos := "same.go:90", after := #[], guard := none }) (v := ?_) rfl (by kernel_rfl) (by kernel_rfl) (by kernel_rfl) (fun _ _ _ h => h) (Or.inl ⟨by rfl, ?_⟩) (by trivial) ?_
                rotate_left
                (focus (intro w9 hSw; obtain ⟨s9, t9⟩ := hSw; obtain ⟨lt, c0, c1, c2_, c3⟩ := s9.cells; obtain ⟨lt2, g0, g1, g2, g3⟩ := t9.cells; obtain ⟨p0, p1⟩ := sh_at s9.z.s j hlt; obtain ⟨r0, r1⟩ := sh_at t9.z.s j hlt2; go_simp <;> with_reducible rfl))
                try simp only [Act.put, List.setIfInBounds_toArray, List.set_cons_zero, List.set_cons_succ]
                refine wpAnyH_take (i := 9) (oi := { dst := some 55, op := Op.indexAddr 22 (Operand.tmp 53) (Operand.tmp 54), type := 0, pos := "same.go:90", after := #[{ on := 7, ground := Ground.data }, { on := 8, ground := Ground.data }], guard := none }) (v := ?_) rfl (by kernel_rfl) (by kernel_rfl) (by kernel_rfl) (fun _ _ _ h => h) (Or.inl ⟨by rfl, ?_⟩) (by trivial) ?_
                rotate_left
                (focus (intro w9 hSw; obtain ⟨s9, t9⟩ := hSw; obtain ⟨lt, c0, c1, c2_, c3⟩ := s9.cells; obtain ⟨lt2, g0, g1, g2, g3⟩ := t9.cells; obtain ⟨p0, p1⟩ := sh_at s9.z.s j hlt; obtain ⟨r0, r1⟩ := sh_at t9.z.s j hlt2; go_simp <;> with_reducible rfl))
                try simp only [Act.put, List.setIfInBounds_toArray, List.set_cons_zero, List.set_cons_succ]
                refine wpAnyH_take (i := 10) (oi := { dst := some 56, op := Op.fieldAddr 29 (Operand.tmp 55) 0, type := 0, pos := "same.go:90", after := #[{ on := 9, ground := Ground.data }], guard := none }) (v := ?_) rfl (by kernel_rfl) (by kernel_rfl) (by kernel_rfl) (fun _ _ _ h => h) (Or.inl ⟨by rfl, ?_⟩) (by trivial) ?_
                rotate_left
                (focus (intro w9 hSw; obtain ⟨s9, t9⟩ := hSw; obtain ⟨lt, c0, c1, c2_, c3⟩ := s9.cells; obtain ⟨lt2, g0, g1, g2, g3⟩ := t9.cells; obtain ⟨p0, p1⟩ := sh_at s9.z.s j hlt; obtain ⟨r0, r1⟩ := sh_at t9.z.s j hlt2; go_simp <;> with_reducible rfl))
                try simp only [Act.put, List.setIfInBounds_toArray, List.set_cons_zero, List.set_cons_succ]
                refine wpAnyH_take (i := 11) (oi := { dst := some 57, op := Op.load 3 (Operand.tmp 56), type := 3, pos := "same.go:90", after := #[{ on := 10, ground := Ground.data }], guard := none }) (v := ?_) rfl (by kernel_rfl) (by kernel_rfl) (by kernel_rfl) (fun _ _ _ h => h) (Or.inl ⟨by rfl, ?_⟩) (by trivial) ?_
                rotate_left
                (focus (intro w9 hSw; obtain ⟨s9, t9⟩ := hSw; obtain ⟨lt, c0, c1, c2_, c3⟩ := s9.cells; obtain ⟨lt2, g0, g1, g2, g3⟩ := t9.cells; obtain ⟨p0, p1⟩ := sh_at s9.z.s j hlt; obtain ⟨r0, r1⟩ := sh_at t9.z.s j hlt2; go_simp <;> with_reducible rfl))
                try simp only [Act.put, List.setIfInBounds_toArray, List.set_cons_zero, List.set_cons_succ]
                refine wpAnyH_take (i := 12) (oi := { dst := some 58, op := Op.binOp BinOp.neq 3 (Operand.tmp 51) (Operand.tmp 57) 3, type := 4, pos := "same.go:90", after := #[{ on := 5, ground := Ground.data }, { on := 11, ground := Ground.data }], guard := none }) (v := ?_) rfl (by kernel_rfl) (by kernel_rfl) (by kernel_rfl) (fun _ _ _ h => h) (Or.inl ⟨by rfl, ?_⟩) (by trivial) ?_
                rotate_left
                (focus (intro w9 hSw; obtain ⟨s9, t9⟩ := hSw; obtain ⟨lt, c0, c1, c2_, c3⟩ := s9.cells; obtain ⟨lt2, g0, g1, g2, g3⟩ := t9.cells; obtain ⟨p0, p1⟩ := sh_at s9.z.s j hlt; obtain ⟨r0, r1⟩ := sh_at t9.z.s j hlt2; go_simp <;> with_reducible rfl))
                try simp only [Act.put, List.setIfInBounds_toArray, List.set_cons_zero, List.set_cons_succ]
                refine wpAnyH_take (i := 13) (oi := { dst := some 59, op := Op.move (Operand.tmp 58), type := 4, pos := "same.go:90", after := #[{ on := 12, ground := Ground.data }], guard := none }) (v := ?_) rfl (by kernel_rfl) (by kernel_rfl) (by kernel_rfl) (fun _ _ _ h => h) (Or.inl ⟨by rfl, ?_⟩) (by trivial) ?_
                rotate_left
                (focus (intro w9 hSw; obtain ⟨s9, t9⟩ := hSw; obtain ⟨lt, c0, c1, c2_, c3⟩ := s9.cells; obtain ⟨lt2, g0, g1, g2, g3⟩ := t9.cells; obtain ⟨p0, p1⟩ := sh_at s9.z.s j hlt; obtain ⟨r0, r1⟩ := sh_at t9.z.s j hlt2; go_simp <;> with_reducible rfl))
                try simp only [Act.put, List.setIfInBounds_toArray, List.set_cons_zero, List.set_cons_succ]
                refine wpAnyH_take (i := 14) (oi := { dst := some 60, op := Op.fieldAddr 25 (Operand.tmp 2) 1, type := 0, pos := "same.go:90", after := #[{ on := 13, ground := Ground.guard }], guard := some (13, false) }) (v := undef) rfl (by kernel_rfl) (by kernel_rfl) (by kernel_rfl) (fun _ _ _ h => h) (Or.inr ⟨by rfl, rfl⟩) (by trivial) ?_
                try simp only [Act.put, List.setIfInBounds_toArray, List.set_cons_zero, List.set_cons_succ]
                refine wpAnyH_take (i := 15) (oi := { dst := some 61, op := Op.load 22 (Operand.tmp 60), type := 22, pos := "same.go:90", after := #[{ on := 14, ground := Ground.data }, { on := 13, ground := Ground.guard }], guard := some (13, false) }) (v := undef) rfl (by kernel_rfl) (by kernel_rfl) (by kernel_rfl) (fun _ _ _ h => h) (Or.inr ⟨by rfl, rfl⟩) (by trivial) ?_
                try simp only [Act.put, List.setIfInBounds_toArray, List.set_cons_zero, List.set_cons_succ]
                refine wpAnyH_take (i := 16) (oi := { dst := some 62, op := Op.move (Operand.tmp 5), type := 3, pos := "same.go:90", after := #[{ on := 13, ground := Ground.guard }], guard := some (13, false) }) (v := undef) rfl (by kernel_rfl) (by kernel_rfl) (by kernel_rfl) (fun _ _ _ h => h) (Or.inr ⟨by rfl, rfl⟩) (by trivial) ?_
                try simp only [Act.put, List.setIfInBounds_toArray, List.set_cons_zero, List.set_cons_succ]
                refine wpAnyH_take (i := 17) (oi := { dst := some 63, op := Op.indexAddr 22 (Operand.tmp 61) (Operand.tmp 62), type := 0, pos := "same.go:90", after := #[{ on := 15, ground := Ground.data }, { on := 16, ground := Ground.data }, { on := 13, ground := Ground.guard }], guard := some (13, false) }) (v := undef) rfl (by kernel_rfl) (by kernel_rfl) (by kernel_rfl) (fun _ _ _ h => h) (Or.inr ⟨by rfl, rfl⟩) (by trivial) ?_
                try simp only [Act.put, List.setIfInBounds_toArray, List.set_cons_zero, List.set_cons_succ]
                refine wpAnyH_take (i := 18) (oi := { dst := some 64, op := Op.fieldAddr 29 (Operand.tmp 63) 1, type := 0, pos := "same.go:90", after := #[{ on := 17, ground := Ground.data }, { on := 13, ground := Ground.guard }], guard := some (13, false) }) (v := undef) rfl (by kernel_rfl) (by kernel_rfl) (by kernel_rfl) (fun _ _ _ h => h) (Or.inr ⟨by rfl, rfl⟩) (by trivial) ?_
                try simp only [Act.put, List.setIfInBounds_toArray, List.set_cons_zero, List.set_cons_succ]
                refine wpAnyH_take (i := 19) (oi := { dst := some 65, op := Op.load 3 (Operand.tmp 64), type := 3, pos := "same.go:90", after := #[{ on := 18, ground := Ground.data }, { on := 13, ground := Ground.guard }], guard := some (13, false) }) (v := undef) rfl (by kernel_rfl) (by kernel_rfl) (by kernel_rfl) (fun _ _ _ h => h) (Or.inr ⟨by rfl, rfl⟩) (by trivial) ?_
                try simp only [Act.put, List.setIfInBounds_toArray, List.set_cons_zero, List.set_cons_succ]
                refine wpAnyH_take (i := 20) (oi := { dst := some 66, op := Op.fieldAddr 25 (Operand.tmp 3) 1, type := 0, pos := "same.go:90", after := #[{ on := 13, ground := Ground.guard }], guard := some (13, false) }) (v := undef) rfl (by kernel_rfl) (by kernel_rfl) (by kernel_rfl) (fun _ _ _ h => h) (Or.inr ⟨by rfl, rfl⟩) (by trivial) ?_
                try simp only [Act.put, List.setIfInBounds_toArray, List.set_cons_zero, List.set_cons_succ]
                refine wpAnyH_take (i := 21) (oi := { dst := some 67, op := Op.load 22 (Operand.tmp 66), type := 22, pos := "same.go:90", after := #[{ on := 20, ground := Ground.data }, { on := 13, ground := Ground.guard }], guard := some (13, false) }) (v := undef) rfl (by kernel_rfl) (by kernel_rfl) (by kernel_rfl) (fun _ _ _ h => h) (Or.inr ⟨by rfl, rfl⟩) (by trivial) ?_
                try simp only [Act.put, List.setIfInBounds_toArray, List.set_cons_zero, List.set_cons_succ]
                refine wpAnyH_take (i := 22) (oi := { dst := some 68, op := Op.move (Operand.tmp 5), type := 3, pos := "same.go:90", after := #[{ on := 13, ground := Ground.guard }], guard := some (13, false) }) (v := undef) rfl (by kernel_rfl) (by kernel_rfl) (by kernel_rfl) (fun _ _ _ h => h) (Or.inr ⟨by rfl, rfl⟩) (by trivial) ?_
                try simp only [Act.put, List.setIfInBounds_toArray, List.set_cons_zero, List.set_cons_succ]
                refine wpAnyH_take (i := 23) (oi := { dst := some 69, op := Op.indexAddr 22 (Operand.tmp 67) (Operand.tmp 68), type := 0, pos := "same.go:90", after := #[{ on := 21, ground := Ground.data }, { on := 22, ground := Ground.data }, { on := 13, ground := Ground.guard }], guard := some (13, false) }) (v := undef) rfl (by kernel_rfl) (by kernel_rfl) (by kernel_rfl) (fun _ _ _ h => h) (Or.inr ⟨by rfl, rfl⟩) (by trivial) ?_
                try simp only [Act.put, List.setIfInBounds_toArray, List.set_cons_zero, List.set_cons_succ]
                refine wpAnyH_take (i := 24) (oi := { dst := some 70, op := Op.fieldAddr 29 (Operand.tmp 69) 1, type := 0, pos := "same.go:90", after := #[{ on := 23, ground := Ground.data }, { on := 13, ground := Ground.guard }], guard := some (13, false) }) (v := undef) rfl (by kernel_rfl) (by kernel_rfl) (by kernel_rfl) (fun _ _ _ h => h) (Or.inr ⟨by rfl, rfl⟩) (by trivial) ?_
                try simp only [Act.put, List.setIfInBounds_toArray, List.set_cons_zero, List.set_cons_succ]
                refine wpAnyH_take (i := 25) (oi := { dst := some 71, op := Op.load 3 (Operand.tmp 70), type := 3, pos := "same.go:90", after := #[{ on := 24, ground := Ground.data }, { on := 13, ground := Ground.guard }], guard := some (13, false) }) (v := undef) rfl (by kernel_rfl) (by kernel_rfl) (by kernel_rfl) (fun _ _ _ h => h) (Or.inr ⟨by rfl, rfl⟩) (by trivial) ?_
                try simp only [Act.put, List.setIfInBounds_toArray, List.set_cons_zero, List.set_cons_succ]
                refine wpAnyH_take (i := 26) (oi := { dst := some 72, op := Op.binOp BinOp.neq 3 (Operand.tmp 65) (Operand.tmp 71) 3, type := 4, pos := "same.go:90", after := #[{ on := 19, ground := Ground.data }, { on := 25, ground := Ground.data }, { on := 13, ground := Ground.guard }], guard := some (13, false) }) (v := undef) rfl (by kernel_rfl) (by kernel_rfl) (by kernel_rfl) (fun _ _ _ h => h) (Or.inr ⟨by rfl, rfl⟩) (by trivial) ?_
                try simp only [Act.put, List.setIfInBounds_toArray, List.set_cons_zero, List.set_cons_succ]
                refine wpAnyH_take (i := 27) (oi := { dst := some 73, op := Op.pick (Operand.tmp 59) (Operand.const (Value.bool true)) (Operand.tmp 72), type := 4, pos := "same.go:90", after := #[{ on := 13, ground := Ground.data }, { on := 26, ground := Ground.data }], guard := none }) (v := ?_) rfl (by kernel_rfl) (by kernel_rfl) (by kernel_rfl) (fun _ _ _ h => h) (Or.inl ⟨by rfl, ?_⟩) (by trivial) ?_
                rotate_left
                (focus (intro w9 hSw; obtain ⟨s9, t9⟩ := hSw; obtain ⟨lt, c0, c1, c2_, c3⟩ := s9.cells; obtain ⟨lt2, g0, g1, g2, g3⟩ := t9.cells; obtain ⟨p0, p1⟩ := sh_at s9.z.s j hlt; obtain ⟨r0, r1⟩ := sh_at t9.z.s j hlt2; go_simp <;> with_reducible rfl))
                try simp only [Act.put, List.setIfInBounds_toArray, List.set_cons_zero, List.set_cons_succ]
                refine wpAnyH_done (by kernel_rfl) ?_ _
                go_wp2_with fail
                go_ret
                exact ⟨by rw [hn.out]; rfl, s.b⟩
            · obtain rfl : n1 = j := by omega
              have hLL := Lib.hid (show L = L2 from List.ext_getElem? fun k => by
                have h1 := hn1.out
                have h2 := hm1.out
                by_cases h : k < L.length
                · exact hU k h (by omega)
                · rw [List.getElem?_eq_none (by omega), List.getElem?_eq_none (by omega)])
              clear hU
              go_wp2_with fail
              clear lt c0 c1 c2_ c3 lt2 g0 g1 g2 g3
              go_loopw [6, 7, 8] (fun kv av bv wr => ∃ j : Nat, j ≤ n2 ∧ kv = .int .i64 (j : Int) ∧ (∀ k (h : k < Y.length), k < j → Y[k]? = Y2[k]?) ∧ Sn w wr w.heap.size bs A n1 c A' n2 c' fr L Y ∧ Sn w wr (w.heap.size + 1) bs A2 n1 c2 A2' n2 c2' fr L2 Y2) (fun kv av bv _ => n2 - (intOf kv).toNat)
              case atStart => exact ⟨0, Nat.zero_le _, rfl, fun k h h2 => absurd h2 (by omega), s, s2⟩
              case round =>
                clear s s2
                obtain ⟨j, hj, rfl, hU, s, s2⟩ := hrel
                obtain ⟨lt, c0, c1, c2_, c3⟩ := s.cells
                obtain ⟨lt2, g0, g1, g2, g3⟩ := s2.cells
                by_cases hjn : j < n2
                · have hlt : j < Y.length := by have := hn2.out; omega
                  have hlt2 : j < Y2.length := by have := hm2.out; omega
                  obtain ⟨ad, rfl, -⟩ := s.z.y j hlt
                  obtain ⟨ad2, rfl, -⟩ := s2.z.y j hlt2
                  have i0 : (0 : Int) ≤ (j : Int) := by omega
                  have i1 : (j : Int) < (n2 : Int) := by omega
                  go_wp2_with fail
                  clear lt c0 c1 c2_ c3 lt2 g0 g1 g2 g3
                  replace s := s.drew
                  replace s2 := s2.drew
                  refine wp_region_held_drew (S := fun w9 => Sn w w9 w.heap.size bs A n1 c (some ad) n2 c' fr L Y ∧ Sn w w9 (w.heap.size + 1) bs A2 n1 c2 (some ad2) n2 c2' fr L2 Y2) (by kernel_rfl) ⟨s, s2⟩ (fun _ => ?_)
                  generalize wr.drew = wx at s s2 ⊢
                  refine wpAnyH_take (i := 0) (oi := { dst := some 81, op := Op.fieldAddr 25 (Operand.tmp 2) 2, type := 0, pos := "same.go:95", after := #[], guard := none }) (v := ?_) rfl (by kernel_rfl) (by kernel_rfl) (by kernel_rfl) (fun _ _ _ h => h) (Or.inl ⟨by rfl, ?_⟩) (by trivial) ?_
                  rotate_left
                  (focus (intro w9 hSw; obtain ⟨s9, t9⟩ := hSw; obtain ⟨lt, c0, c1, c2_, c3⟩ := s9.cells; obtain ⟨lt2, g0, g1, g2, g3⟩ := t9.cells; obtain ⟨p0, p1, p2, p3, p4⟩ := yr_get s9.z.y j hlt; obtain ⟨r0, r1, r2, r3, r4⟩ := yr_get t9.z.y j hlt2; go_simp <;> with_reducible rfl))
                  try simp only [Act.put, List.setIfInBounds_toArray, List.set_cons_zero, List.set_cons_succ]
                  refine wpAnyH_take (i := 1) (oi := { dst := some 82, op := Op.load 23 (Operand.tmp 81), type := 23, pos := "same.go:95", after := #[{ on := 0, ground := Ground.data }], guard := none }) (v := ?_) rfl (by kernel_rfl) (by kernel_rfl) (by kernel_rfl) (fun _ _ _ h => h) (Or.inl ⟨by rfl, ?_⟩) (by trivial) ?_
                  rotate_left
                  (focus (intro w9 hSw; obtain ⟨s9, t9⟩ := hSw; obtain ⟨lt, c0, c1, c2_, c3⟩ := s9.cells; obtain ⟨lt2, g0, g1, g2, g3⟩ := t9.cells; obtain ⟨p0, p1, p2, p3, p4⟩ := yr_get s9.z.y j hlt; obtain ⟨r0, r1, r2, r3, r4⟩ := yr_get t9.z.y j hlt2; go_simp <;> with_reducible rfl))
                  try simp only [Act.put, List.setIfInBounds_toArray, List.set_cons_zero, List.set_cons_succ]
                  refine wpAnyH_take (i := 2) (oi := { dst := some 83, op := Op.move (Operand.tmp 6), type := 3, pos := "same.go:95", after := #[], guard := none }) (v := ?_) rfl (by kernel_rfl) (by kernel_rfl) (by kernel_rfl) (fun _ _ _ h => h) (Or.inl ⟨by rfl, ?_⟩) (by trivial) ?_
                  rotate_left
                  (focus (intro w9 hSw; obtain ⟨s9, t9⟩ := hSw; obtain ⟨lt, c0, c1, c2_, c3⟩ := s9.cells; obtain ⟨lt2, g0, g1, g2, g3⟩ := t9.cells; obtain ⟨p0, p1, p2, p3, p4⟩ := yr_get s9.z.y j hlt; obtain ⟨r0, r1, r2, r3, r4⟩ := yr_get t9.z.y j hlt2; go_simp <;> with_reducible rfl))
                  try simp only [Act.put, List.setIfInBounds_toArray, List.set_cons_zero, List.set_cons_succ]
                  refine wpAnyH_take (i := 3) (oi := { dst := some 84, op := Op.indexAddr 23 (Operand.tmp 82) (Operand.tmp 83), type := 0, pos := "same.go:95", after := #[{ on := 1, ground := Ground.data }, { on := 2, ground := Ground.data }], guard := none }) (v := ?_) rfl (by kernel_rfl) (by kernel_rfl) (by kernel_rfl) (fun _ _ _ h => h) (Or.inl ⟨by rfl, ?_⟩) (by trivial) ?_
                  rotate_left
                  (focus (intro w9 hSw; obtain ⟨s9, t9⟩ := hSw; obtain ⟨lt, c0, c1, c2_, c3⟩ := s9.cells; obtain ⟨lt2, g0, g1, g2, g3⟩ := t9.cells; obtain ⟨p0, p1, p2, p3, p4⟩ := yr_get s9.z.y j hlt; obtain ⟨r0, r1, r2, r3, r4⟩ := yr_get t9.z.y j hlt2; go_simp <;> with_reducible rfl))
                  try simp only [Act.put, List.setIfInBounds_toArray, List.set_cons_zero, List.set_cons_succ]
                  refine wpAnyH_take (i := 4) (oi := { dst := some 85, op := Op.load 50 (Operand.tmp 84), type := 50, pos := "same.go:95", after := #[{ on := 3, ground := Ground.data }], guard := none }) (v := ?_) rfl (by kernel_rfl) (by kernel_rfl) (by kernel_rfl) (fun _ _ _ h => h) (Or.inl ⟨by rfl, ?_⟩) (by trivial) ?_
                  rotate_left
                  (focus (intro w9 hSw; obtain ⟨s9, t9⟩ := hSw; obtain ⟨lt, c0, c1, c2_, c3⟩ := s9.cells; obtain ⟨lt2, g0, g1, g2, g3⟩ := t9.cells; obtain ⟨p0, p1, p2, p3, p4⟩ := yr_get s9.z.y j hlt; obtain ⟨r0, r1, r2, r3, r4⟩ := yr_get t9.z.y j hlt2; go_simp <;> with_reducible rfl))
                  try simp only [Act.put, List.setIfInBounds_toArray, List.set_cons_zero, List.set_cons_succ]
                  refine wpAnyH_take (i := 5) (oi := { dst := some 86, op := Op.fieldAddr 25 (Operand.tmp 3) 2, type := 0, pos := "same.go:95", after := #[{ on := 12, ground := Ground.gcOnly Departure.lateStores }], guard := none }) (v := ?_) rfl (by kernel_rfl) (by kernel_rfl) (by kernel_rfl) (fun _ _ _ h => h) (Or.inl ⟨by rfl, ?_⟩) (by trivial) ?_
                  rotate_left
                  (focus (intro w9 hSw; obtain ⟨s9, t9⟩ := hSw; obtain ⟨lt, c0, c1, c2_, c3⟩ := s9.cells; obtain ⟨lt2, g0, g1, g2, g3⟩ := t9.cells; obtain ⟨p0, p1, p2, p3, p4⟩ := yr_get s9.z.y j hlt; obtain ⟨r0, r1, r2, r3, r4⟩ := yr_get t9.z.y j hlt2; go_simp <;> with_reducible rfl))
                  try simp only [Act.put, List.setIfInBounds_toArray, List.set_cons_zero, List.set_cons_succ]
                  refine wpAnyH_take (i := 6) (oi := { dst := some 87, op := Op.load 23 (Operand.tmp 86), type := 23, pos := "same.go:95", after := #[{ on := 5, ground := Ground.data }, { on := 12, ground := Ground.gcOnly Departure.lateStores }], guard := none }) (v := ?_) rfl (by kernel_rfl) (by kernel_rfl) (by kernel_rfl) (fun _ _ _ h => h) (Or.inl ⟨by rfl, ?_⟩) (by trivial) ?_
                  rotate_left
                  (focus (intro w9 hSw; obtain ⟨s9, t9⟩ := hSw; obtain ⟨lt, c0, c1, c2_, c3⟩ := s9.cells; obtain ⟨lt2, g0, g1, g2, g3⟩ := t9.cells; obtain ⟨p0, p1, p2, p3, p4⟩ := yr_get s9.z.y j hlt; obtain ⟨r0, r1, r2, r3, r4⟩ := yr_get t9.z.y j hlt2; go_simp <;> with_reducible rfl))
                  try simp only [Act.put, List.setIfInBounds_toArray, List.set_cons_zero, List.set_cons_succ]
                  refine wpAnyH_take (i := 7) (oi := { dst := some 88, op := Op.move (Operand.tmp 6), type := 3, pos := "same.go:95", after := #[{ on := 12, ground := Ground.gcOnly Departure.lateStores }], guard := none }) (v := ?_) rfl (by kernel_rfl) (by kernel_rfl) (by kernel_rfl) (fun _ _ _ h => h) (Or.inl ⟨by rfl, ?_⟩) (by trivial) ?_
                  rotate_left
                  (focus (intro w9 hSw; obtain ⟨s9, t9⟩ := hSw; obtain ⟨lt, c0, c1, c2_, c3⟩ := s9.cells; obtain ⟨lt2, g0, g1, g2, g3⟩ := t9.cells; obtain ⟨p0, p1, p2, p3, p4⟩ := yr_get s9.z.y j hlt; obtain ⟨r0, r1, r2, r3, r4⟩ := yr_get t9.z.y j hlt2; go_simp <;> with_reducible rfl))
                  try simp only [Act.put, List.setIfInBounds_toArray, List.set_cons_zero, List.set_cons_succ]
                  refine wpAnyH_take (i := 8) (oi := { dst := some 89, op := Op.indexAddr 23 (Operand.tmp 87) (Operand.tmp 88), type := 0, pos := "same.go:95", after := #[{ on := 6, ground := Ground.data }, { on := 7, ground := Ground.data }, { on := 12, ground := Ground.gcOnly Departure.lateStores }], guard := none }) (v := ?_) rfl (by kernel_rfl) (by kernel_rfl) (by kernel_rfl) (fun _ _ _ h => h) (Or.inl ⟨by rfl, ?_⟩) (by trivial) ?_
                  rotate_left
                  (focus (intro w9 hSw; obtain ⟨s9, t9⟩ := hSw; obtain ⟨lt, c0, c1, c2_, c3⟩ := s9.cells; obtain ⟨lt2, g0, g1, g2, g3⟩ := t9.cells; obtain ⟨p0, p1, p2, p3, p4⟩ := yr_get s9.z.y j hlt; obtain ⟨r0, r1, r2, r3, r4⟩ := yr_get t9.z.y j hlt2; go_simp <;> with_reducible rfl))
                  try simp only [Act.put, List.setIfInBounds_toArray, List.set_cons_zero, List.set_cons_succ]
                  refine wpAnyH_take (i := 9) (oi := { dst := some 90, op := Op.load 50 (Operand.tmp 89), type := 50, pos := "same.go:95", after := #[{ on := 8, ground := Ground.data }, { on := 12, ground := Ground.gcOnly Departure.lateStores }], guard := none }) (v := ?_) rfl (by kernel_rfl) (by kernel_rfl) (by kernel_rfl) (fun _ _ _ h => h) (Or.inl ⟨by rfl, ?_⟩) (by trivial) ?_
                  rotate_left
                  (focus (intro w9 hSw; obtain ⟨s9, t9⟩ := hSw; obtain ⟨lt, c0, c1, c2_, c3⟩ := s9.cells; obtain ⟨lt2, g0, g1, g2, g3⟩ := t9.cells; obtain ⟨p0, p1, p2, p3, p4⟩ := yr_get s9.z.y j hlt; obtain ⟨r0, r1, r2, r3, r4⟩ := yr_get t9.z.y j hlt2; go_simp <;> with_reducible rfl))
                  try simp only [Act.put, List.setIfInBounds_toArray, List.set_cons_zero, List.set_cons_succ]
                  refine wpAnyH_ready (rs := [10, 11]) (by kernel_rfl) (by simp) ?_
                  refine AllReadyH.cons (o := { dst := some 7, op := Op.alloc 50, type := 0, pos := "same.go:95", after := #[], guard := none }) rfl (fun K hK => ?_) (AllReadyH.cons (o := { dst := some 8, op := Op.alloc 50, type := 0, pos := "same.go:95", after := #[], guard := none }) rfl (fun K hK => ?_) (AllReadyH.nil))
                  · go_simp
                    go_wp2_with fail
                    have s2x := Lib.hid s2.x.lt
                    have F10 := Five.new_ wx ⟨0, 0, 0, 0, 0⟩ wx.heap.size rfl
                    replace s := s.alloc (.cells #[.int .i64 0, .int .i64 0, .int .i64 0, .int .i64 0, .int .i64 0] 50)
                    replace s2 := s2.alloc (.cells #[.int .i64 0, .int .i64 0, .int .i64 0, .int .i64 0, .int .i64 0] 50)
                    refine hK.out _ _ ⟨s, s2⟩ (fun _ => ?_)
                    clear hK K
                    try simp only [Act.put, List.setIfInBounds_toArray, List.set_cons_zero, List.set_cons_succ]
                    obtain ⟨p10, hpe⟩ : ∃ p, p = wx.heap.size := ⟨_, rfl⟩
                    have hb10 : w.heap.size + 1 < p10 := by rw [hpe]; exact s2x.out
                    rw [← hpe] at F10 ⊢
                    clear hpe s2x
                    generalize wx.alloc (.cells #[.int .i64 0, .int .i64 0, .int .i64 0, .int .i64 0, .int .i64 0] 50) = wx at s s2 F10 ⊢
                    refine wpAnyH_ready (rs := [11]) (by kernel_rfl) (by simp) ?_
                    refine AllReadyH.cons (o := { dst := some 8, op := Op.alloc 50, type := 0, pos := "same.go:95", after := #[], guard := none }) rfl (fun K hK => ?_) (AllReadyH.nil)
                    go_simp
                    go_wp2_with fail
                    have hl10 := Lib.hid F10.lt
                    have s2x := Lib.hid s2.x.lt
                    have F11 := Five.new_ wx ⟨0, 0, 0, 0, 0⟩ wx.heap.size rfl
                    replace s := s.alloc (.cells #[.int .i64 0, .int .i64 0, .int .i64 0, .int .i64 0, .int .i64 0] 50)
                    replace s2 := s2.alloc (.cells #[.int .i64 0, .int .i64 0, .int .i64 0, .int .i64 0, .int .i64 0] 50)
                    replace F10 := F10.alloc (.cells #[.int .i64 0, .int .i64 0, .int .i64 0, .int .i64 0, .int .i64 0] 50)
                    refine hK.out _ _ ⟨s, s2⟩ (fun _ => ?_)
                    clear hK K
                    try simp only [Act.put, List.setIfInBounds_toArray, List.set_cons_zero, List.set_cons_succ]
                    obtain ⟨p11, hpe⟩ : ∃ p, p = wx.heap.size := ⟨_, rfl⟩
                    have hb11 : w.heap.size + 1 < p11 := by rw [hpe]; exact s2x.out
                    have hne : p11 ≠ p10 := by have := hl10.out; omega
                    rw [← hpe] at F11 ⊢
                    clear hpe s2x hl10
                    generalize wx.alloc (.cells #[.int .i64 0, .int .i64 0, .int .i64 0, .int .i64 0, .int .i64 0] 50) = wx at s s2 F10 F11 ⊢
                    refine wpAnyH_ready (rs := [12]) (by kernel_rfl) (by simp) ?_
                    refine AllReadyH.cons (o := { dst := none, op := Op.store 50 (Operand.tmp 7) (Operand.tmp 85), type := 0, pos := "same.go:95", after := #[{ on := 10, ground := Ground.data }, { on := 4, ground := Ground.data }, { on := 0, ground := Ground.phase }, { on := 1, ground := Ground.phase }, { on := 2, ground := Ground.phase }, { on := 3, ground := Ground.phase }, { on := 4, ground := Ground.phase }, { on := 5, ground := Ground.textOnly Departure.lateStores }, { on := 6, ground := Ground.textOnly Departure.lateStores }, { on := 7, ground := Ground.textOnly Departure.lateStores }, { on := 8, ground := Ground.textOnly Departure.lateStores }, { on := 9, ground := Ground.textOnly Departure.lateStores }, { on := 10, ground := Ground.phase }, { on := 11, ground := Ground.phase }], guard := none }) rfl (fun K hK => ?_) (AllReadyH.nil)
                    obtain ⟨d0, d1, d2, d3, d4⟩ := F10.all
                    have e0 := F10.free 0
                    have e1 := F10.free 1
                    have e2 := F10.free 2
                    have e3 := F10.free 3
                    have e4 := F10.free 4
                    go_simp
                    go_wp2_with fail
                    clear d0 d1 d2 d3 d4 e0 e1 e2 e3 e4
                    replace F10 := F10.set Y[j]
                    replace F11 := (((((F11.other (i := 0) (q := p10) (by omega) (.int .i64 Y[j].m)).other (i := 1) (q := p10) (by omega) (.int .i64 Y[j].n)).other (i := 2) (q := p10) (by omega) (.int .i64 Y[j].w)).other (i := 3) (q := p10) (by omega) (.int .i64 Y[j].s)).other (i := 4) (q := p10) (by omega) (.int .i64 Y[j].o))
                    replace s := (((((s.set (i := 0) (q := p10) (by omega) (by omega) (.int .i64 Y[j].m)).set (i := 1) (q := p10) (by omega) (by omega) (.int .i64 Y[j].n)).set (i := 2) (q := p10) (by omega) (by omega) (.int .i64 Y[j].w)).set (i := 3) (q := p10) (by omega) (by omega) (.int .i64 Y[j].s)).set (i := 4) (q := p10) (by omega) (by omega) (.int .i64 Y[j].o))
                    replace s2 := (((((s2.set (i := 0) (q := p10) (by omega) (by omega) (.int .i64 Y[j].m)).set (i := 1) (q := p10) (by omega) (by omega) (.int .i64 Y[j].n)).set (i := 2) (q := p10) (by omega) (by omega) (.int .i64 Y[j].w)).set (i := 3) (q := p10) (by omega) (by omega) (.int .i64 Y[j].s)).set (i := 4) (q := p10) (by omega) (by omega) (.int .i64 Y[j].o))
                    refine hK.out _ _ ⟨s, s2⟩ (fun _ => ?_)
                    clear hK K
                    try simp only [Act.put, List.setIfInBounds_toArray, List.set_cons_zero, List.set_cons_succ]
                    generalize (((((wx.setCell ⟨p10, 0, none⟩ (.int .i64 Y[j].m)).setCell ⟨p10, 1, none⟩ (.int .i64 Y[j].n)).setCell ⟨p10, 2, none⟩ (.int .i64 Y[j].w)).setCell ⟨p10, 3, none⟩ (.int .i64 Y[j].s)).setCell ⟨p10, 4, none⟩ (.int .i64 Y[j].o)) = wx at s s2 F10 F11 ⊢
                    refine wpAnyH_ready (rs := [13]) (by kernel_rfl) (by simp) ?_
                    refine AllReadyH.cons (o := { dst := none, op := Op.store 50 (Operand.tmp 8) (Operand.tmp 90), type := 0, pos := "same.go:95", after := #[{ on := 11, ground := Ground.data }, { on := 9, ground := Ground.data }, { on := 12, ground := Ground.chain }, { on := 0, ground := Ground.phase }, { on := 1, ground := Ground.phase }, { on := 2, ground := Ground.phase }, { on := 3, ground := Ground.phase }, { on := 4, ground := Ground.phase }, { on := 5, ground := Ground.phase }, { on := 6, ground := Ground.phase }, { on := 7, ground := Ground.phase }, { on := 8, ground := Ground.phase }, { on := 9, ground := Ground.phase }, { on := 10, ground := Ground.phase }, { on := 11, ground := Ground.phase }, { on := 12, ground := Ground.phase }], guard := none }) rfl (fun K hK => ?_) (AllReadyH.nil)
                    obtain ⟨d0, d1, d2, d3, d4⟩ := F11.all
                    have e0 := F11.free 0
                    have e1 := F11.free 1
                    have e2 := F11.free 2
                    have e3 := F11.free 3
                    have e4 := F11.free 4
                    go_simp
                    go_wp2_with fail
                    clear d0 d1 d2 d3 d4 e0 e1 e2 e3 e4
                    replace F11 := F11.set Y2[j]
                    replace F10 := (((((F10.other (i := 0) (q := p11) (by omega) (.int .i64 Y2[j].m)).other (i := 1) (q := p11) (by omega) (.int .i64 Y2[j].n)).other (i := 2) (q := p11) (by omega) (.int .i64 Y2[j].w)).other (i := 3) (q := p11) (by omega) (.int .i64 Y2[j].s)).other (i := 4) (q := p11) (by omega) (.int .i64 Y2[j].o))
                    replace s := (((((s.set (i := 0) (q := p11) (by omega) (by omega) (.int .i64 Y2[j].m)).set (i := 1) (q := p11) (by omega) (by omega) (.int .i64 Y2[j].n)).set (i := 2) (q := p11) (by omega) (by omega) (.int .i64 Y2[j].w)).set (i := 3) (q := p11) (by omega) (by omega) (.int .i64 Y2[j].s)).set (i := 4) (q := p11) (by omega) (by omega) (.int .i64 Y2[j].o))
                    replace s2 := (((((s2.set (i := 0) (q := p11) (by omega) (by omega) (.int .i64 Y2[j].m)).set (i := 1) (q := p11) (by omega) (by omega) (.int .i64 Y2[j].n)).set (i := 2) (q := p11) (by omega) (by omega) (.int .i64 Y2[j].w)).set (i := 3) (q := p11) (by omega) (by omega) (.int .i64 Y2[j].s)).set (i := 4) (q := p11) (by omega) (by omega) (.int .i64 Y2[j].o))
                    refine hK.out _ _ ⟨s, s2⟩ (fun _ => ?_)
                    clear hK K
                    try simp only [Act.put, List.setIfInBounds_toArray, List.set_cons_zero, List.set_cons_succ]
                    generalize (((((wx.setCell ⟨p11, 0, none⟩ (.int .i64 Y2[j].m)).setCell ⟨p11, 1, none⟩ (.int .i64 Y2[j].n)).setCell ⟨p11, 2, none⟩ (.int .i64 Y2[j].w)).setCell ⟨p11, 3, none⟩ (.int .i64 Y2[j].s)).setCell ⟨p11, 4, none⟩ (.int .i64 Y2[j].o)) = wx at s s2 F10 F11 ⊢
                    refine wpAnyH_done (by kernel_rfl) ?_ _
                    obtain ⟨d0, d1, d2, d3, d4⟩ := F10.all
                    obtain ⟨e0, e1, e2, e3, e4⟩ := F11.all
                    clear F10 F11
                    by_cases q0 : Y[j].m = Y2[j].m
                    · have t0 : (Y[j].m != Y2[j].m) = false := by simpa using q0
                      by_cases q1 : Y[j].n = Y2[j].n
                      · have t1 : (Y[j].n != Y2[j].n) = false := by simpa using q1
                        by_cases q2 : Y[j].w = Y2[j].w
                        · have t2 : (Y[j].w != Y2[j].w) = false := by simpa using q2
                          by_cases q3 : Y[j].s = Y2[j].s
                          · have t3 : (Y[j].s != Y2[j].s) = false := by simpa using q3
                            by_cases q4 : Y[j].o = Y2[j].o
                            · have t4 : (Y[j].o != Y2[j].o) = false := by simpa using q4
                              have hnx := Lib.hid (show ∀ k (h : k < Y.length), k < j + 1 → Y[k]? = Y2[k]? from fun k h h2 => by
                                rcases Nat.lt_or_eq_of_le (Nat.le_of_lt_succ h2) with h3 | rfl
                                · exact hU k h h3
                                · rw [List.getElem?_eq_getElem hlt, List.getElem?_eq_getElem hlt2]
                                  congr 1
                                  have x1 : Y[k] = ⟨Y[k].m, Y[k].n, Y[k].w, Y[k].s, Y[k].o⟩ := rfl
                                  have x2 : Y2[k] = ⟨Y2[k].m, Y2[k].n, Y2[k].w, Y2[k].s, Y2[k].o⟩ := rfl
                                  rw [x1, x2, q0, q1, q2, q3, q4])
                              clear q0 q1 q2 q3 q4
                              go_wp2_with fail
                              go_roundw
                              case rel => exact ⟨j + 1, by omega, by simp, hnx.out, s, s2⟩
                              case measure => simp [intOf]; omega
                            · have t4 : (Y[j].o != Y2[j].o) = true := by simpa using q4
                              have hn := Lib.hid (show sameB bs L Y fr bs L2 Y2 fr = false from decide_eq_false fun h => q4 (by
                                have h1 : Y[j]? = Y2[j]? := by rw [h.2.2.2]
                                rw [List.getElem?_eq_getElem hlt, List.getElem?_eq_getElem hlt2] at h1
                                injection h1 with h1
                                rw [h1]))
                              clear q0 q1 q2 q3 q4
                              go_wp2_with fail
                              go_ret
                              exact ⟨by rw [hn.out]; rfl, s.b⟩
                          · have t3 : (Y[j].s != Y2[j].s) = true := by simpa using q3
                            have hn := Lib.hid (show sameB bs L Y fr bs L2 Y2 fr = false from decide_eq_false fun h => q3 (by
                              have h1 : Y[j]? = Y2[j]? := by rw [h.2.2.2]
                              rw [List.getElem?_eq_getElem hlt, List.getElem?_eq_getElem hlt2] at h1
                              injection h1 with h1
                              rw [h1]))
                            clear q0 q1 q2 q3
                            go_wp2_with fail
                            go_ret
                            exact ⟨by rw [hn.out]; rfl, s.b⟩
                        · have t2 : (Y[j].w != Y2[j].w) = true := by simpa using q2
                          have hn := Lib.hid (show sameB bs L Y fr bs L2 Y2 fr = false from decide_eq_false fun h => q2 (by
                            have h1 : Y[j]? = Y2[j]? := by rw [h.2.2.2]
                            rw [List.getElem?_eq_getElem hlt, List.getElem?_eq_getElem hlt2] at h1
                            injection h1 with h1
                            rw [h1]))
                          clear q0 q1 q2
                          go_wp2_with fail
                          go_ret
                          exact ⟨by rw [hn.out]; rfl, s.b⟩
                      · have t1 : (Y[j].n != Y2[j].n) = true := by simpa using q1
                        have hn := Lib.hid (show sameB bs L Y fr bs L2 Y2 fr = false from decide_eq_false fun h => q1 (by
                          have h1 : Y[j]? = Y2[j]? := by rw [h.2.2.2]
                          rw [List.getElem?_eq_getElem hlt, List.getElem?_eq_getElem hlt2] at h1
                          injection h1 with h1
                          rw [h1]))
                        clear q0 q1
                        go_wp2_with fail
                        go_ret
                        exact ⟨by rw [hn.out]; rfl, s.b⟩
                    · have t0 : (Y[j].m != Y2[j].m) = true := by simpa using q0
                      have hn := Lib.hid (show sameB bs L Y fr bs L2 Y2 fr = false from decide_eq_false fun h => q0 (by
                        have h1 : Y[j]? = Y2[j]? := by rw [h.2.2.2]
                        rw [List.getElem?_eq_getElem hlt, List.getElem?_eq_getElem hlt2] at h1
                        injection h1 with h1
                        rw [h1]))
                      clear q0
                      go_wp2_with fail
                      go_ret
                      exact ⟨by rw [hn.out]; rfl, s.b⟩
                  · go_simp
                    go_wp2_with fail
                    have s2x := Lib.hid s2.x.lt
                    have F11 := Five.new_ wx ⟨0, 0, 0, 0, 0⟩ wx.heap.size rfl
                    replace s := s.alloc (.cells #[.int .i64 0, .int .i64 0, .int .i64 0, .int .i64 0, .int .i64 0] 50)
                    replace s2 := s2.alloc (.cells #[.int .i64 0, .int .i64 0, .int .i64 0, .int .i64 0, .int .i64 0] 50)
                    refine hK.out _ _ ⟨s, s2⟩ (fun _ => ?_)
                    clear hK K
                    try simp only [Act.put, List.setIfInBounds_toArray, List.set_cons_zero, List.set_cons_succ]
                    obtain ⟨p11, hpe⟩ : ∃ p, p = wx.heap.size := ⟨_, rfl⟩
                    have hb11 : w.heap.size + 1 < p11 := by rw [hpe]; exact s2x.out
                    rw [← hpe] at F11 ⊢
                    clear hpe s2x
                    generalize wx.alloc (.cells #[.int .i64 0, .int .i64 0, .int .i64 0, .int .i64 0, .int .i64 0] 50) = wx at s s2 F11 ⊢
                    refine wpAnyH_ready (rs := [10]) (by kernel_rfl) (by simp) ?_
                    refine AllReadyH.cons (o := { dst := some 7, op := Op.alloc 50, type := 0, pos := "same.go:95", after := #[], guard := none }) rfl (fun K hK => ?_) (AllReadyH.nil)
                    go_simp
                    go_wp2_with fail
                    have hl11 := Lib.hid F11.lt
                    have s2x := Lib.hid s2.x.lt
                    have F10 := Five.new_ wx ⟨0, 0, 0, 0, 0⟩ wx.heap.size rfl
                    replace s := s.alloc (.cells #[.int .i64 0, .int .i64 0, .int .i64 0, .int .i64 0, .int .i64 0] 50)
                    replace s2 := s2.alloc (.cells #[.int .i64 0, .int .i64 0, .int .i64 0, .int .i64 0, .int .i64 0] 50)
                    replace F11 := F11.alloc (.cells #[.int .i64 0, .int .i64 0, .int .i64 0, .int .i64 0, .int .i64 0] 50)
                    refine hK.out _ _ ⟨s, s2⟩ (fun _ => ?_)
                    clear hK K
                    try simp only [Act.put, List.setIfInBounds_toArray, List.set_cons_zero, List.set_cons_succ]
                    obtain ⟨p10, hpe⟩ : ∃ p, p = wx.heap.size := ⟨_, rfl⟩
                    have hb10 : w.heap.size + 1 < p10 := by rw [hpe]; exact s2x.out
                    have hne : p10 ≠ p11 := by have := hl11.out; omega
                    rw [← hpe] at F10 ⊢
                    clear hpe s2x hl11
                    generalize wx.alloc (.cells #[.int .i64 0, .int .i64 0, .int .i64 0, .int .i64 0, .int .i64 0] 50) = wx at s s2 F10 F11 ⊢
                    refine wpAnyH_ready (rs := [12]) (by kernel_rfl) (by simp) ?_
                    refine AllReadyH.cons (o := { dst := none, op := Op.store 50 (Operand.tmp 7) (Operand.tmp 85), type := 0, pos := "same.go:95", after := #[{ on := 10, ground := Ground.data }, { on := 4, ground := Ground.data }, { on := 0, ground := Ground.phase }, { on := 1, ground := Ground.phase }, { on := 2, ground := Ground.phase }, { on := 3, ground := Ground.phase }, { on := 4, ground := Ground.phase }, { on := 5, ground := Ground.textOnly Departure.lateStores }, { on := 6, ground := Ground.textOnly Departure.lateStores }, { on := 7, ground := Ground.textOnly Departure.lateStores }, { on := 8, ground := Ground.textOnly Departure.lateStores }, { on := 9, ground := Ground.textOnly Departure.lateStores }, { on := 10, ground := Ground.phase }, { on := 11, ground := Ground.phase }], guard := none }) rfl (fun K hK => ?_) (AllReadyH.nil)
                    obtain ⟨d0, d1, d2, d3, d4⟩ := F10.all
                    have e0 := F10.free 0
                    have e1 := F10.free 1
                    have e2 := F10.free 2
                    have e3 := F10.free 3
                    have e4 := F10.free 4
                    go_simp
                    go_wp2_with fail
                    clear d0 d1 d2 d3 d4 e0 e1 e2 e3 e4
                    replace F10 := F10.set Y[j]
                    replace F11 := (((((F11.other (i := 0) (q := p10) (by omega) (.int .i64 Y[j].m)).other (i := 1) (q := p10) (by omega) (.int .i64 Y[j].n)).other (i := 2) (q := p10) (by omega) (.int .i64 Y[j].w)).other (i := 3) (q := p10) (by omega) (.int .i64 Y[j].s)).other (i := 4) (q := p10) (by omega) (.int .i64 Y[j].o))
                    replace s := (((((s.set (i := 0) (q := p10) (by omega) (by omega) (.int .i64 Y[j].m)).set (i := 1) (q := p10) (by omega) (by omega) (.int .i64 Y[j].n)).set (i := 2) (q := p10) (by omega) (by omega) (.int .i64 Y[j].w)).set (i := 3) (q := p10) (by omega) (by omega) (.int .i64 Y[j].s)).set (i := 4) (q := p10) (by omega) (by omega) (.int .i64 Y[j].o))
                    replace s2 := (((((s2.set (i := 0) (q := p10) (by omega) (by omega) (.int .i64 Y[j].m)).set (i := 1) (q := p10) (by omega) (by omega) (.int .i64 Y[j].n)).set (i := 2) (q := p10) (by omega) (by omega) (.int .i64 Y[j].w)).set (i := 3) (q := p10) (by omega) (by omega) (.int .i64 Y[j].s)).set (i := 4) (q := p10) (by omega) (by omega) (.int .i64 Y[j].o))
                    refine hK.out _ _ ⟨s, s2⟩ (fun _ => ?_)
                    clear hK K
                    try simp only [Act.put, List.setIfInBounds_toArray, List.set_cons_zero, List.set_cons_succ]
                    generalize (((((wx.setCell ⟨p10, 0, none⟩ (.int .i64 Y[j].m)).setCell ⟨p10, 1, none⟩ (.int .i64 Y[j].n)).setCell ⟨p10, 2, none⟩ (.int .i64 Y[j].w)).setCell ⟨p10, 3, none⟩ (.int .i64 Y[j].s)).setCell ⟨p10, 4, none⟩ (.int .i64 Y[j].o)) = wx at s s2 F10 F11 ⊢
                    refine wpAnyH_ready (rs := [13]) (by kernel_rfl) (by simp) ?_
                    refine AllReadyH.cons (o := { dst := none, op := Op.store 50 (Operand.tmp 8) (Operand.tmp 90), type := 0, pos := "same.go:95", after := #[{ on := 11, ground := Ground.data }, { on := 9, ground := Ground.data }, { on := 12, ground := Ground.chain }, { on := 0, ground := Ground.phase }, { on := 1, ground := Ground.phase }, { on := 2, ground := Ground.phase }, { on := 3, ground := Ground.phase }, { on := 4, ground := Ground.phase }, { on := 5, ground := Ground.phase }, { on := 6, ground := Ground.phase }, { on := 7, ground := Ground.phase }, { on := 8, ground := Ground.phase }, { on := 9, ground := Ground.phase }, { on := 10, ground := Ground.phase }, { on := 11, ground := Ground.phase }, { on := 12, ground := Ground.phase }], guard := none }) rfl (fun K hK => ?_) (AllReadyH.nil)
                    obtain ⟨d0, d1, d2, d3, d4⟩ := F11.all
                    have e0 := F11.free 0
                    have e1 := F11.free 1
                    have e2 := F11.free 2
                    have e3 := F11.free 3
                    have e4 := F11.free 4
                    go_simp
                    go_wp2_with fail
                    clear d0 d1 d2 d3 d4 e0 e1 e2 e3 e4
                    replace F11 := F11.set Y2[j]
                    replace F10 := (((((F10.other (i := 0) (q := p11) (by omega) (.int .i64 Y2[j].m)).other (i := 1) (q := p11) (by omega) (.int .i64 Y2[j].n)).other (i := 2) (q := p11) (by omega) (.int .i64 Y2[j].w)).other (i := 3) (q := p11) (by omega) (.int .i64 Y2[j].s)).other (i := 4) (q := p11) (by omega) (.int .i64 Y2[j].o))
                    replace s := (((((s.set (i := 0) (q := p11) (by omega) (by omega) (.int .i64 Y2[j].m)).set (i := 1) (q := p11) (by omega) (by omega) (.int .i64 Y2[j].n)).set (i := 2) (q := p11) (by omega) (by omega) (.int .i64 Y2[j].w)).set (i := 3) (q := p11) (by omega) (by omega) (.int .i64 Y2[j].s)).set (i := 4) (q := p11) (by omega) (by omega) (.int .i64 Y2[j].o))
                    replace s2 := (((((s2.set (i := 0) (q := p11) (by omega) (by omega) (.int .i64 Y2[j].m)).set (i := 1) (q := p11) (by omega) (by omega) (.int .i64 Y2[j].n)).set (i := 2) (q := p11) (by omega) (by omega) (.int .i64 Y2[j].w)).set (i := 3) (q := p11) (by omega) (by omega) (.int .i64 Y2[j].s)).set (i := 4) (q := p11) (by omega) (by omega) (.int .i64 Y2[j].o))
                    refine hK.out _ _ ⟨s, s2⟩ (fun _ => ?_)
                    clear hK K
                    try simp only [Act.put, List.setIfInBounds_toArray, List.set_cons_zero, List.set_cons_succ]
                    generalize (((((wx.setCell ⟨p11, 0, none⟩ (.int .i64 Y2[j].m)).setCell ⟨p11, 1, none⟩ (.int .i64 Y2[j].n)).setCell ⟨p11, 2, none⟩ (.int .i64 Y2[j].w)).setCell ⟨p11, 3, none⟩ (.int .i64 Y2[j].s)).setCell ⟨p11, 4, none⟩ (.int .i64 Y2[j].o)) = wx at s s2 F10 F11 ⊢
                    refine wpAnyH_done (by kernel_rfl) ?_ _
                    obtain ⟨d0, d1, d2, d3, d4⟩ := F10.all
                    obtain ⟨e0, e1, e2, e3, e4⟩ := F11.all
                    clear F10 F11
                    by_cases q0 : Y[j].m = Y2[j].m
                    · have t0 : (Y[j].m != Y2[j].m) = false := by simpa using q0
                      by_cases q1 : Y[j].n = Y2[j].n
                      · have t1 : (Y[j].n != Y2[j].n) = false := by simpa using q1
                        by_cases q2 : Y[j].w = Y2[j].w
                        · have t2 : (Y[j].w != Y2[j].w) = false := by simpa using q2
                          by_cases q3 : Y[j].s = Y2[j].s
                          · have t3 : (Y[j].s != Y2[j].s) = false := by simpa using q3
                            by_cases q4 : Y[j].o = Y2[j].o
                            · have t4 : (Y[j].o != Y2[j].o) = false := by simpa using q4
                              have hnx := Lib.hid (show ∀ k (h : k < Y.length), k < j + 1 → Y[k]? = Y2[k]? from fun k h h2 => by
                                rcases Nat.lt_or_eq_of_le (Nat.le_of_lt_succ h2) with h3 | rfl
                                · exact hU k h h3
                                · rw [List.getElem?_eq_getElem hlt, List.getElem?_eq_getElem hlt2]
                                  congr 1
                                  have x1 : Y[k] = ⟨Y[k].m, Y[k].n, Y[k].w, Y[k].s, Y[k].o⟩ := rfl
                                  have x2 : Y2[k] = ⟨Y2[k].m, Y2[k].n, Y2[k].w, Y2[k].s, Y2[k].o⟩ := rfl
                                  rw [x1, x2, q0, q1, q2, q3, q4])
                              clear q0 q1 q2 q3 q4
                              go_wp2_with fail
                              go_roundw
                              case rel => exact ⟨j + 1, by omega, by simp, hnx.out, s, s2⟩
                              case measure => simp [intOf]; omega
                            · have t4 : (Y[j].o != Y2[j].o) = true := by simpa using q4
                              have hn := Lib.hid (show sameB bs L Y fr bs L2 Y2 fr = false from decide_eq_false fun h => q4 (by
                                have h1 : Y[j]? = Y2[j]? := by rw [h.2.2.2]
                                rw [List.getElem?_eq_getElem hlt, List.getElem?_eq_getElem hlt2] at h1
                                injection h1 with h1
                                rw [h1]))
                              clear q0 q1 q2 q3 q4
                              go_wp2_with fail
                              go_ret
                              exact ⟨by rw [hn.out]; rfl, s.b⟩
                          · have t3 : (Y[j].s != Y2[j].s) = true := by simpa using q3
                            have hn := Lib.hid (show sameB bs L Y fr bs L2 Y2 fr = false from decide_eq_false fun h => q3 (by
                              have h1 : Y[j]? = Y2[j]? := by rw [h.2.2.2]
                              rw [List.getElem?_eq_getElem hlt, List.getElem?_eq_getElem hlt2] at h1
                              injection h1 with h1
                              rw [h1]))
                            clear q0 q1 q2 q3
                            go_wp2_with fail
                            go_ret
                            exact ⟨by rw [hn.out]; rfl, s.b⟩
                        · have t2 : (Y[j].w != Y2[j].w) = true := by simpa using q2
                          have hn := Lib.hid (show sameB bs L Y fr bs L2 Y2 fr = false from decide_eq_false fun h => q2 (by
                            have h1 : Y[j]? = Y2[j]? := by rw [h.2.2.2]
                            rw [List.getElem?_eq_getElem hlt, List.getElem?_eq_getElem hlt2] at h1
                            injection h1 with h1
                            rw [h1]))
                          clear q0 q1 q2
                          go_wp2_with fail
                          go_ret
                          exact ⟨by rw [hn.out]; rfl, s.b⟩
                      · have t1 : (Y[j].n != Y2[j].n) = true := by simpa using q1
                        have hn := Lib.hid (show sameB bs L Y fr bs L2 Y2 fr = false from decide_eq_false fun h => q1 (by
                          have h1 : Y[j]? = Y2[j]? := by rw [h.2.2.2]
                          rw [List.getElem?_eq_getElem hlt, List.getElem?_eq_getElem hlt2] at h1
                          injection h1 with h1
                          rw [h1]))
                        clear q0 q1
                        go_wp2_with fail
                        go_ret
                        exact ⟨by rw [hn.out]; rfl, s.b⟩
                    · have t0 : (Y[j].m != Y2[j].m) = true := by simpa using q0
                      have hn := Lib.hid (show sameB bs L Y fr bs L2 Y2 fr = false from decide_eq_false fun h => q0 (by
                        have h1 : Y[j]? = Y2[j]? := by rw [h.2.2.2]
                        rw [List.getElem?_eq_getElem hlt, List.getElem?_eq_getElem hlt2] at h1
                        injection h1 with h1
                        rw [h1]))
                      clear q0
                      go_wp2_with fail
                      go_ret
                      exact ⟨by rw [hn.out]; rfl, s.b⟩
                · obtain rfl : n2 = j := by omega
                  have hn := Lib.hid (show sameB bs L Y fr bs L2 Y2 fr = true from decide_eq_true ⟨rfl, rfl, hLL.out, List.ext_getElem? fun k => by
                    have h1 := hn2.out
                    have h2 := hm2.out
                    by_cases h : k < Y.length
                    · exact hU k h (by omega)
                    · rw [List.getElem?_eq_none (by omega), List.getElem?_eq_none (by omega)]⟩)
                  go_wp2_with fail
                  go_ret
                  exact ⟨by rw [hn.out]; rfl, s.b⟩
        · have tnY : (((n2 : Nat) : Int) != ((m2 : Nat) : Int)) = true := by rw [bne_iff_ne]; omega
          have hn : sameB bs L Y fr bs L2 Y2 fr = false := decide_eq_false fun h => nY (by rw [hn2.out, hm2.out, h.2.2.2])
          replace hn := Lib.hid hn
          clear nY
          go_enter Try.func25, Try.ntmps25
          go_wp2_with fail
          go_wp2_with fail
          go_ret
          exact ⟨by rw [hn.out]; rfl, bx⟩
      · have tnL : (((n1 : Nat) : Int) != ((m1 : Nat) : Int)) = true := by rw [bne_iff_ne]; omega
        have hn : sameB bs L Y fr bs L2 Y2 fr = false := decide_eq_false fun h => nL (by rw [hn1.out, hm1.out, h.2.2.1])
        replace hn := Lib.hid hn
        clear nL
        go_enter Try.func25, Try.ntmps25
        go_wp2_with fail
        go_wp2_with fail
        go_ret
        exact ⟨by rw [hn.out]; rfl, bx⟩
    · have tq2 : (fr != fr2) = true := by rw [bne_iff_ne]; omega
      have hn : sameB bs L Y fr bs L2 Y2 fr2 = false := decide_eq_false fun h => q2 h.2.1
      replace hn := Lib.hid hn
      clear q2
      go_enter Try.func25, Try.ntmps25
      go_wp2_with fail
      go_wp2_with fail
      go_ret
      exact ⟨by rw [hn.out]; rfl, bx⟩
  · have tq1 : (bs != bs2) = true := by rw [bne_iff_ne]; omega
    have hn : sameB bs L Y fr bs2 L2 Y2 fr2 = false := decide_eq_false fun h => q1 h.1
    replace hn := Lib.hid hn
    clear q1
    go_enter Try.func25, Try.ntmps25
    go_wp2_with fail
    go_wp2_with fail
    go_ret
    exact ⟨by rw [hn.out]; rfl, bx⟩
end Go.Proofs.Ytbnchbcdgffkaaa
