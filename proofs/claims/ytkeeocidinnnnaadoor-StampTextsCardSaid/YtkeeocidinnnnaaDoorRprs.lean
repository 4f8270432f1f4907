/- vokref1.Parse. -/
import Derived.Test.YtkeeocidinnnnaaDoorRtxt
import Derived.Deep.RegionHeld3
import Derived.Deep.DrawnRows
namespace Go.Proofs.YtkeeocidinnnnaaDoor
open Go.RowKit
set_option linter.unusedVariables false
open Classical in
/-- What number answers. -/
noncomputable def numV (x : ByteArray) : Int := if AllDig x then pre x x.size else -1
theorem numV_bd {x : ByteArray} (h : x.size ≤ 4) : -1 ≤ numV x ∧ numV x ≤ 10000 := by
  unfold numV
  split
  · rename_i q
    obtain ⟨a, b⟩ := pre_bd x.size fun i hi => q i hi
    have h1 : (10 : Nat) ^ x.size ≤ 10 ^ 4 := Nat.pow_le_pow_right (by omega) h
    have e : ((10 ^ x.size : Nat) : Int) = (10 : Int) ^ x.size := by push_cast; rfl
    rw [← e] at b
    omega
  · omega
theorem rnumber_any (x : ByteArray) (h : x.size ≤ 4) (w : World) : Calls Tryd.prog 37 #[.string x] w fun e w' => e = .returned (.int .i64 (numV x)) ∧ w = w' := by
  by_cases q : AllDig x
  · rw [show numV x = pre x x.size from if_pos q]
    exact rnumber_yes x (by omega) q w
  · rw [show numV x = -1 from if_neg q]
    obtain ⟨k, hk, hn⟩ := not_all q
    exact rnumber_no x (by omega) k hk hn w
/-- The six numbers. -/
noncomputable def six (s : ByteArray) : Fin 6 → Int
  | 0 => numV (s.extract 0 4) | 1 => numV (s.extract 4 6) | 2 => numV (s.extract 6 8) | 3 => numV (s.extract 9 11) | 4 => numV (s.extract 11 13) | 5 => numV (s.extract 13 15)
open Classical in
noncomputable def rpV (s : ByteArray) : Int × Int := if ∀ i, 0 ≤ six s i then mkV (six s 0) (six s 1) (six s 2) (six s 3) (six s 4) (six s 5) else (0, 4)
set_option maxRecDepth 100000 in
set_option maxHeartbeats 4000000 in
theorem rparse_full (s : ByteArray) (z : s.size = 15) (hT : ∀ h : 8 < s.size, s[8].toNat = 84) (w : World) :
    Calls Tryd.prog 17 #[.string s] w fun e w' => e = .returned (.tuple #[.int .i64 (rpV s).1, .int .i64 (rpV s).2]) ∧ Below w.heap.size w w' := by
  have q8 : 8 < s.size := by omega
  have hT := hT q8
  have hN0 := rnumber_any (s.extract 0 4) (by rw [ByteArray.size_extract]; omega)
  have hB0 := numV_bd (x := s.extract 0 4) (by rw [ByteArray.size_extract]; omega)
  have hN1 := rnumber_any (s.extract 4 6) (by rw [ByteArray.size_extract]; omega)
  have hB1 := numV_bd (x := s.extract 4 6) (by rw [ByteArray.size_extract]; omega)
  have hN2 := rnumber_any (s.extract 6 8) (by rw [ByteArray.size_extract]; omega)
  have hB2 := numV_bd (x := s.extract 6 8) (by rw [ByteArray.size_extract]; omega)
  have hN3 := rnumber_any (s.extract 9 11) (by rw [ByteArray.size_extract]; omega)
  have hB3 := numV_bd (x := s.extract 9 11) (by rw [ByteArray.size_extract]; omega)
  have hN4 := rnumber_any (s.extract 11 13) (by rw [ByteArray.size_extract]; omega)
  have hB4 := numV_bd (x := s.extract 11 13) (by rw [ByteArray.size_extract]; omega)
  have hN5 := rnumber_any (s.extract 13 15) (by rw [ByteArray.size_extract]; omega)
  have hB5 := numV_bd (x := s.extract 13 15) (by rw [ByteArray.size_extract]; omega)
  have hgood : (∀ i, 0 ≤ six s i) → rpV s = mkV (six s 0) (six s 1) (six s 2) (six s 3) (six s 4) (six s 5) := fun h => by unfold rpV; rw [if_pos h]
  have hbad : ∀ i, six s i < 0 → rpV s = (0, 4) := fun i h => by unfold rpV; rw [if_neg (fun g => by have := g i; omega)]
  have e0 : six s 0 = numV (s.extract 0 4) := rfl
  generalize numV (s.extract 0 4) = v0 at *
  have e1 : six s 1 = numV (s.extract 4 6) := rfl
  generalize numV (s.extract 4 6) = v1 at *
  have e2 : six s 2 = numV (s.extract 6 8) := rfl
  generalize numV (s.extract 6 8) = v2 at *
  have e3 : six s 3 = numV (s.extract 9 11) := rfl
  generalize numV (s.extract 9 11) = v3 at *
  have e4 : six s 4 = numV (s.extract 11 13) := rfl
  generalize numV (s.extract 11 13) = v4 at *
  have e5 : six s 5 = numV (s.extract 13 15) := rfl
  generalize numV (s.extract 13 15) = v5 at *
  have b := Below.refl w.heap.size w
  replace e0 := Lib.hid e0
  obtain ⟨lo0, hi0⟩ := hB0
  replace e1 := Lib.hid e1
  obtain ⟨lo1, hi1⟩ := hB1
  replace e2 := Lib.hid e2
  obtain ⟨lo2, hi2⟩ := hB2
  replace e3 := Lib.hid e3
  obtain ⟨lo3, hi3⟩ := hB3
  replace e4 := Lib.hid e4
  obtain ⟨lo4, hi4⟩ := hB4
  replace e5 := Lib.hid e5
  obtain ⟨lo5, hi5⟩ := hB5
  replace hgood := Lib.hid hgood
  replace hbad := Lib.hid hbad
  go_enter Tryd.func17, Tryd.ntmps17
  go_wp2_with fail
  refine wp_region_held_drew (S := fun _ => True) (by kernel_rfl) trivial (fun _ => ?_)
  refine wpAnyH_take (i := 0) (oi := { dst := some 17, op := Op.move (Operand.tmp 0), type := 9, pos := "ref.go:227", after := #[], guard := none }) (v := ?_) rfl (by kernel_rfl) (by kernel_rfl) (by kernel_rfl) (fun _ _ _ h => h) (Or.inl ⟨by rfl, ?_⟩) (by trivial) ?_
  rotate_left
  (focus (intro w9 hSw; skip; go_simp <;> with_reducible rfl))
  try simp only [Act.put, List.setIfInBounds_toArray, List.set_cons_zero, List.set_cons_succ]
  refine wpAnyH_take (i := 1) (oi := { dst := some 18, op := Op.slice 9 (Operand.tmp 17) (some (Operand.const (Value.int IntKind.i64 0))) (some (Operand.const (Value.int IntKind.i64 4))) none, type := 9, pos := "ref.go:227", after := #[{ on := 0, ground := Ground.data }], guard := none }) (v := ?_) rfl (by kernel_rfl) (by kernel_rfl) (by kernel_rfl) (fun _ _ _ h => h) (Or.inl ⟨by rfl, ?_⟩) (by trivial) ?_
  rotate_left
  (focus (intro w9 hSw; skip; go_simp <;> with_reducible rfl))
  try simp only [Act.put, List.setIfInBounds_toArray, List.set_cons_zero, List.set_cons_succ]
  refine wpAnyH_take (i := 3) (oi := { dst := some 20, op := Op.move (Operand.tmp 0), type := 9, pos := "ref.go:227", after := #[], guard := none }) (v := ?_) rfl (by kernel_rfl) (by kernel_rfl) (by kernel_rfl) (fun _ _ _ h => h) (Or.inl ⟨by rfl, ?_⟩) (by trivial) ?_
  rotate_left
  (focus (intro w9 hSw; skip; go_simp <;> with_reducible rfl))
  try simp only [Act.put, List.setIfInBounds_toArray, List.set_cons_zero, List.set_cons_succ]
  refine wpAnyH_take (i := 4) (oi := { dst := some 21, op := Op.slice 9 (Operand.tmp 20) (some (Operand.const (Value.int IntKind.i64 4))) (some (Operand.const (Value.int IntKind.i64 6))) none, type := 9, pos := "ref.go:227", after := #[{ on := 3, ground := Ground.data }], guard := none }) (v := ?_) rfl (by kernel_rfl) (by kernel_rfl) (by kernel_rfl) (fun _ _ _ h => h) (Or.inl ⟨by rfl, ?_⟩) (by trivial) ?_
  rotate_left
  (focus (intro w9 hSw; skip; go_simp <;> with_reducible rfl))
  try simp only [Act.put, List.setIfInBounds_toArray, List.set_cons_zero, List.set_cons_succ]
  refine wpAnyH_take (i := 6) (oi := { dst := some 23, op := Op.move (Operand.tmp 0), type := 9, pos := "ref.go:227", after := #[], guard := none }) (v := ?_) rfl (by kernel_rfl) (by kernel_rfl) (by kernel_rfl) (fun _ _ _ h => h) (Or.inl ⟨by rfl, ?_⟩) (by trivial) ?_
  rotate_left
  (focus (intro w9 hSw; skip; go_simp <;> with_reducible rfl))
  try simp only [Act.put, List.setIfInBounds_toArray, List.set_cons_zero, List.set_cons_succ]
  refine wpAnyH_take (i := 7) (oi := { dst := some 24, op := Op.slice 9 (Operand.tmp 23) (some (Operand.const (Value.int IntKind.i64 6))) (some (Operand.const (Value.int IntKind.i64 8))) none, type := 9, pos := "ref.go:227", after := #[{ on := 6, ground := Ground.data }], guard := none }) (v := ?_) rfl (by kernel_rfl) (by kernel_rfl) (by kernel_rfl) (fun _ _ _ h => h) (Or.inl ⟨by rfl, ?_⟩) (by trivial) ?_
  rotate_left
  (focus (intro w9 hSw; skip; go_simp <;> with_reducible rfl))
  try simp only [Act.put, List.setIfInBounds_toArray, List.set_cons_zero, List.set_cons_succ]
  refine wpAnyH_take (i := 9) (oi := { dst := some 26, op := Op.move (Operand.tmp 0), type := 9, pos := "ref.go:227", after := #[], guard := none }) (v := ?_) rfl (by kernel_rfl) (by kernel_rfl) (by kernel_rfl) (fun _ _ _ h => h) (Or.inl ⟨by rfl, ?_⟩) (by trivial) ?_
  rotate_left
  (focus (intro w9 hSw; skip; go_simp <;> with_reducible rfl))
  try simp only [Act.put, List.setIfInBounds_toArray, List.set_cons_zero, List.set_cons_succ]
  refine wpAnyH_take (i := 10) (oi := { dst := some 27, op := Op.slice 9 (Operand.tmp 26) (some (Operand.const (Value.int IntKind.i64 9))) (some (Operand.const (Value.int IntKind.i64 11))) none, type := 9, pos := "ref.go:227", after := #[{ on := 9, ground := Ground.data }], guard := none }) (v := ?_) rfl (by kernel_rfl) (by kernel_rfl) (by kernel_rfl) (fun _ _ _ h => h) (Or.inl ⟨by rfl, ?_⟩) (by trivial) ?_
  rotate_left
  (focus (intro w9 hSw; skip; go_simp <;> with_reducible rfl))
  try simp only [Act.put, List.setIfInBounds_toArray, List.set_cons_zero, List.set_cons_succ]
  refine wpAnyH_take (i := 12) (oi := { dst := some 29, op := Op.move (Operand.tmp 0), type := 9, pos := "ref.go:227", after := #[], guard := none }) (v := ?_) rfl (by kernel_rfl) (by kernel_rfl) (by kernel_rfl) (fun _ _ _ h => h) (Or.inl ⟨by rfl, ?_⟩) (by trivial) ?_
  rotate_left
  (focus (intro w9 hSw; skip; go_simp <;> with_reducible rfl))
  try simp only [Act.put, List.setIfInBounds_toArray, List.set_cons_zero, List.set_cons_succ]
  refine wpAnyH_take (i := 13) (oi := { dst := some 30, op := Op.slice 9 (Operand.tmp 29) (some (Operand.const (Value.int IntKind.i64 11))) (some (Operand.const (Value.int IntKind.i64 13))) none, type := 9, pos := "ref.go:227", after := #[{ on := 12, ground := Ground.data }], guard := none }) (v := ?_) rfl (by kernel_rfl) (by kernel_rfl) (by kernel_rfl) (fun _ _ _ h => h) (Or.inl ⟨by rfl, ?_⟩) (by trivial) ?_
  rotate_left
  (focus (intro w9 hSw; skip; go_simp <;> with_reducible rfl))
  try simp only [Act.put, List.setIfInBounds_toArray, List.set_cons_zero, List.set_cons_succ]
  refine wpAnyH_take (i := 15) (oi := { dst := some 32, op := Op.move (Operand.tmp 0), type := 9, pos := "ref.go:227", after := #[], guard := none }) (v := ?_) rfl (by kernel_rfl) (by kernel_rfl) (by kernel_rfl) (fun _ _ _ h => h) (Or.inl ⟨by rfl, ?_⟩) (by trivial) ?_
  rotate_left
  (focus (intro w9 hSw; skip; go_simp <;> with_reducible rfl))
  try simp only [Act.put, List.setIfInBounds_toArray, List.set_cons_zero, List.set_cons_succ]
  refine wpAnyH_take (i := 16) (oi := { dst := some 33, op := Op.slice 9 (Operand.tmp 32) (some (Operand.const (Value.int IntKind.i64 13))) (some (Operand.const (Value.int IntKind.i64 15))) none, type := 9, pos := "ref.go:227", after := #[{ on := 15, ground := Ground.data }], guard := none }) (v := ?_) rfl (by kernel_rfl) (by kernel_rfl) (by kernel_rfl) (fun _ _ _ h => h) (Or.inl ⟨by rfl, ?_⟩) (by trivial) ?_
  rotate_left
  (focus (intro w9 hSw; skip; go_simp <;> with_reducible rfl))
  try simp only [Act.put, List.setIfInBounds_toArray, List.set_cons_zero, List.set_cons_succ]
  refine wpAnyH_ready (rs := [2]) (by kernel_rfl) (by simp) ?_
  refine AllReadyH.cons (o := { dst := some 19, op := Op.call { callee := Callee.value (Operand.func 37), args := #[Operand.tmp 18], argTypes := #[9] }, type := 3, pos := "ref.go:227", after := #[{ on := 1, ground := Ground.data }], guard := none }) rfl (fun K hK => ?_) AllReadyH.nil
  go_simp
  refine (hN0 _).mono ?_
  rintro e w9 ⟨rfl, rfl⟩
  go_wp2_with fail
  refine hK.out _ _ trivial (fun _ => ?_)
  clear hK K
  try simp only [Act.put, List.setIfInBounds_toArray, List.set_cons_zero, List.set_cons_succ]
  refine wpAnyH_ready (rs := [5]) (by kernel_rfl) (by simp) ?_
  refine AllReadyH.cons (o := { dst := some 22, op := Op.call { callee := Callee.value (Operand.func 37), args := #[Operand.tmp 21], argTypes := #[9] }, type := 3, pos := "ref.go:227", after := #[{ on := 4, ground := Ground.data }, { on := 2, ground := Ground.chain }], guard := none }) rfl (fun K hK => ?_) AllReadyH.nil
  go_simp
  refine (hN1 _).mono ?_
  rintro e w9 ⟨rfl, rfl⟩
  go_wp2_with fail
  refine hK.out _ _ trivial (fun _ => ?_)
  clear hK K
  try simp only [Act.put, List.setIfInBounds_toArray, List.set_cons_zero, List.set_cons_succ]
  refine wpAnyH_ready (rs := [8]) (by kernel_rfl) (by simp) ?_
  refine AllReadyH.cons (o := { dst := some 25, op := Op.call { callee := Callee.value (Operand.func 37), args := #[Operand.tmp 24], argTypes := #[9] }, type := 3, pos := "ref.go:227", after := #[{ on := 7, ground := Ground.data }, { on := 5, ground := Ground.chain }], guard := none }) rfl (fun K hK => ?_) AllReadyH.nil
  go_simp
  refine (hN2 _).mono ?_
  rintro e w9 ⟨rfl, rfl⟩
  go_wp2_with fail
  refine hK.out _ _ trivial (fun _ => ?_)
  clear hK K
  try simp only [Act.put, List.setIfInBounds_toArray, List.set_cons_zero, List.set_cons_succ]
  refine wpAnyH_ready (rs := [11]) (by kernel_rfl) (by simp) ?_
  refine AllReadyH.cons (o := { dst := some 28, op := Op.call { callee := Callee.value (Operand.func 37), args := #[Operand.tmp 27], argTypes := #[9] }, type := 3, pos := "ref.go:227", after := #[{ on := 10, ground := Ground.data }, { on := 8, ground := Ground.chain }], guard := none }) rfl (fun K hK => ?_) AllReadyH.nil
  go_simp
  refine (hN3 _).mono ?_
  rintro e w9 ⟨rfl, rfl⟩
  go_wp2_with fail
  refine hK.out _ _ trivial (fun _ => ?_)
  clear hK K
  try simp only [Act.put, List.setIfInBounds_toArray, List.set_cons_zero, List.set_cons_succ]
  refine wpAnyH_ready (rs := [14]) (by kernel_rfl) (by simp) ?_
  refine AllReadyH.cons (o := { dst := some 31, op := Op.call { callee := Callee.value (Operand.func 37), args := #[Operand.tmp 30], argTypes := #[9] }, type := 3, pos := "ref.go:227", after := #[{ on := 13, ground := Ground.data }, { on := 11, ground := Ground.chain }], guard := none }) rfl (fun K hK => ?_) AllReadyH.nil
  go_simp
  refine (hN4 _).mono ?_
  rintro e w9 ⟨rfl, rfl⟩
  go_wp2_with fail
  refine hK.out _ _ trivial (fun _ => ?_)
  clear hK K
  try simp only [Act.put, List.setIfInBounds_toArray, List.set_cons_zero, List.set_cons_succ]
  refine wpAnyH_ready (rs := [17]) (by kernel_rfl) (by simp) ?_
  refine AllReadyH.cons (o := { dst := some 34, op := Op.call { callee := Callee.value (Operand.func 37), args := #[Operand.tmp 33], argTypes := #[9] }, type := 3, pos := "ref.go:227", after := #[{ on := 16, ground := Ground.data }, { on := 14, ground := Ground.chain }], guard := none }) rfl (fun K hK => ?_) AllReadyH.nil
  go_simp
  refine (hN5 _).mono ?_
  rintro e w9 ⟨rfl, rfl⟩
  go_wp2_with fail
  refine hK.out _ _ trivial (fun _ => ?_)
  clear hK K
  try simp only [Act.put, List.setIfInBounds_toArray, List.set_cons_zero, List.set_cons_succ]
  refine wpAnyH_ready (rs := [18]) (by kernel_rfl) (by simp) ?_
  refine AllReadyH.cons (o := { dst := some 35, op := Op.buildSlice 50 6 #[(0, Operand.tmp 19), (1, Operand.tmp 22), (2, Operand.tmp 25), (3, Operand.tmp 28), (4, Operand.tmp 31), (5, Operand.tmp 34)], type := 50, pos := "ref.go:227", after := #[{ on := 2, ground := Ground.data }, { on := 5, ground := Ground.data }, { on := 8, ground := Ground.data }, { on := 11, ground := Ground.data }, { on := 14, ground := Ground.data }, { on := 17, ground := Ground.data }], guard := none }) rfl (fun K hK => ?_) AllReadyH.nil
  go_simp
  go_wp2_with fail
  refine hK.out _ _ trivial (fun _ => ?_)
  clear hK K
  try simp only [Act.put, List.setIfInBounds_toArray, List.set_cons_zero, List.set_cons_succ]
  refine wpAnyH_take (i := 19) (oi := { dst := some 4, op := Op.assign (Operand.tmp 35), type := 50, pos := "ref.go:227", after := #[{ on := 18, ground := Ground.data }, { on := 17, ground := Ground.chain }, { on := 0, ground := Ground.phase }, { on := 1, ground := Ground.phase }, { on := 2, ground := Ground.phase }, { on := 3, ground := Ground.phase }, { on := 4, ground := Ground.phase }, { on := 5, ground := Ground.phase }, { on := 6, ground := Ground.phase }, { on := 7, ground := Ground.phase }, { on := 8, ground := Ground.phase }, { on := 9, ground := Ground.phase }, { on := 10, ground := Ground.phase }, { on := 11, ground := Ground.phase }, { on := 12, ground := Ground.phase }, { on := 13, ground := Ground.phase }, { on := 14, ground := Ground.phase }, { on := 15, ground := Ground.phase }, { on := 16, ground := Ground.phase }, { on := 17, ground := Ground.phase }, { on := 18, ground := Ground.phase }], guard := none }) (v := ?_) rfl (by kernel_rfl) (by kernel_rfl) (by kernel_rfl) (fun _ _ _ h => h) (Or.inl ⟨by rfl, ?_⟩) (by trivial) ?_
  rotate_left
  (focus (intro w9 hSw; skip; go_simp <;> with_reducible rfl))
  try simp only [Act.put, List.setIfInBounds_toArray, List.set_cons_zero, List.set_cons_succ]
  refine wpAnyH_done (by kernel_rfl) ?_ _
  clear hN0 hN1 hN2 hN3 hN4 hN5
  obtain ⟨wa, hwa⟩ : ∃ wa, wa = (w.alloc (.cells #[.int .i64 v0, .int .i64 v1, .int .i64 v2, .int .i64 v3, .int .i64 v4, .int .i64 v5] 3)).drew := ⟨_, rfl⟩
  have hc : ∀ i, wa.cell? ⟨w.heap.size, i, none⟩ = (#[Value.int .i64 v0, .int .i64 v1, .int .i64 v2, .int .i64 v3, .int .i64 v4, .int .i64 v5])[i]? := fun i => by
    rw [hwa]
    exact World.cell?_alloc_at (w := w) _ _ _ _ rfl
  have b1 : Below w.heap.size w wa := by rw [hwa]; exact ((Below.refl _ _).alloc (Nat.le_refl _) _).drew
  have g0 : wa.cell? ⟨w.heap.size, 0, none⟩ = some (.int .i64 v0) := hc 0
  have g1 : wa.cell? ⟨w.heap.size, 1, none⟩ = some (.int .i64 v1) := hc 1
  have g2 : wa.cell? ⟨w.heap.size, 2, none⟩ = some (.int .i64 v2) := hc 2
  have g3 : wa.cell? ⟨w.heap.size, 3, none⟩ = some (.int .i64 v3) := hc 3
  have g4 : wa.cell? ⟨w.heap.size, 4, none⟩ = some (.int .i64 v4) := hc 4
  have g5 : wa.cell? ⟨w.heap.size, 5, none⟩ = some (.int .i64 v5) := hc 5
  rw [← hwa]
  clear hwa hc b
  obtain ⟨p, hp⟩ : ∃ p, p = w.heap.size := ⟨_, rfl⟩
  rw [← hp] at g0 g1 g2 g3 g4 g5 ⊢
  replace hp := Lib.hid hp
  go_wp2_with fail
  go_loopw [5] (fun iv wr => ∃ j : Nat, j ≤ 6 ∧ iv = .int .i64 (j : Int) ∧ (∀ i : Fin 6, i.val < j → 0 ≤ six s i) ∧ wa = wr) (fun iv _ => 6 - (intOf iv).toNat)
  case atStart => exact ⟨0, by omega, rfl, fun i h => absurd h (by omega), rfl⟩
  case round =>
    obtain ⟨j, hj, rfl, hall, rfl⟩ := hrel
    replace hall := Lib.hid hall
    rcases (show j = 0 ∨ j = 1 ∨ j = 2 ∨ j = 3 ∨ j = 4 ∨ j = 5 ∨ j = 6 by omega) with rfl | rfl | rfl | rfl | rfl | rfl | rfl
    · by_cases n : v0 < 0
      · have nt := decide_eq_true n
        have hV := hbad.out 0 (by rw [e0.out]; exact n)
        replace hV := Lib.hid hV
        go_wp2_with fail
        go_ret2
        rw [hV.out]
        exact ⟨rfl, hp.out ▸ b1⟩
      · have nt := decide_eq_false n
        have hnew := Lib.hid (show ∀ i : Fin 6, i.val < 0 + 1 → 0 ≤ six s i from fun i hi => by
          rcases Nat.lt_or_ge i.val 0 with h | h
          · exact hall.out i h
          · have e : i = 0 := Fin.ext (by show i.val = 0; omega)
            rw [e, e0.out]
            omega)
        go_wp2_with fail
        go_roundw
        case rel => exact ⟨1, by omega, rfl, hnew.out, trivial⟩
        case measure => simp [intOf]
    · by_cases n : v1 < 0
      · have nt := decide_eq_true n
        have hV := hbad.out 1 (by rw [e1.out]; exact n)
        replace hV := Lib.hid hV
        go_wp2_with fail
        go_ret2
        rw [hV.out]
        exact ⟨rfl, hp.out ▸ b1⟩
      · have nt := decide_eq_false n
        have hnew := Lib.hid (show ∀ i : Fin 6, i.val < 1 + 1 → 0 ≤ six s i from fun i hi => by
          rcases Nat.lt_or_ge i.val 1 with h | h
          · exact hall.out i h
          · have e : i = 1 := Fin.ext (by show i.val = 1; omega)
            rw [e, e1.out]
            omega)
        go_wp2_with fail
        go_roundw
        case rel => exact ⟨2, by omega, rfl, hnew.out, trivial⟩
        case measure => simp [intOf]
    · by_cases n : v2 < 0
      · have nt := decide_eq_true n
        have hV := hbad.out 2 (by rw [e2.out]; exact n)
        replace hV := Lib.hid hV
        go_wp2_with fail
        go_ret2
        rw [hV.out]
        exact ⟨rfl, hp.out ▸ b1⟩
      · have nt := decide_eq_false n
        have hnew := Lib.hid (show ∀ i : Fin 6, i.val < 2 + 1 → 0 ≤ six s i from fun i hi => by
          rcases Nat.lt_or_ge i.val 2 with h | h
          · exact hall.out i h
          · have e : i = 2 := Fin.ext (by show i.val = 2; omega)
            rw [e, e2.out]
            omega)
        go_wp2_with fail
        go_roundw
        case rel => exact ⟨3, by omega, rfl, hnew.out, trivial⟩
        case measure => simp [intOf]
    · by_cases n : v3 < 0
      · have nt := decide_eq_true n
        have hV := hbad.out 3 (by rw [e3.out]; exact n)
        replace hV := Lib.hid hV
        go_wp2_with fail
        go_ret2
        rw [hV.out]
        exact ⟨rfl, hp.out ▸ b1⟩
      · have nt := decide_eq_false n
        have hnew := Lib.hid (show ∀ i : Fin 6, i.val < 3 + 1 → 0 ≤ six s i from fun i hi => by
          rcases Nat.lt_or_ge i.val 3 with h | h
          · exact hall.out i h
          · have e : i = 3 := Fin.ext (by show i.val = 3; omega)
            rw [e, e3.out]
            omega)
        go_wp2_with fail
        go_roundw
        case rel => exact ⟨4, by omega, rfl, hnew.out, trivial⟩
        case measure => simp [intOf]
    · by_cases n : v4 < 0
      · have nt := decide_eq_true n
        have hV := hbad.out 4 (by rw [e4.out]; exact n)
        replace hV := Lib.hid hV
        go_wp2_with fail
        go_ret2
        rw [hV.out]
        exact ⟨rfl, hp.out ▸ b1⟩
      · have nt := decide_eq_false n
        have hnew := Lib.hid (show ∀ i : Fin 6, i.val < 4 + 1 → 0 ≤ six s i from fun i hi => by
          rcases Nat.lt_or_ge i.val 4 with h | h
          · exact hall.out i h
          · have e : i = 4 := Fin.ext (by show i.val = 4; omega)
            rw [e, e4.out]
            omega)
        go_wp2_with fail
        go_roundw
        case rel => exact ⟨5, by omega, rfl, hnew.out, trivial⟩
        case measure => simp [intOf]
    · by_cases n : v5 < 0
      · have nt := decide_eq_true n
        have hV := hbad.out 5 (by rw [e5.out]; exact n)
        replace hV := Lib.hid hV
        go_wp2_with fail
        go_ret2
        rw [hV.out]
        exact ⟨rfl, hp.out ▸ b1⟩
      · have nt := decide_eq_false n
        have hnew := Lib.hid (show ∀ i : Fin 6, i.val < 5 + 1 → 0 ≤ six s i from fun i hi => by
          rcases Nat.lt_or_ge i.val 5 with h | h
          · exact hall.out i h
          · have e : i = 5 := Fin.ext (by show i.val = 5; omega)
            rw [e, e5.out]
            omega)
        go_wp2_with fail
        go_roundw
        case rel => exact ⟨6, by omega, rfl, hnew.out, trivial⟩
        case measure => simp [intOf]
    · have hV : rpV s = mkV v0 v1 v2 v3 v4 v5 := by
        rw [hgood.out (fun i => hall.out i i.isLt), e0.out, e1.out, e2.out, e3.out, e4.out, e5.out]
      replace hV := Lib.hid hV
      go_wp2_with fail
      refine wp_region_held_drew (S := fun w9 => w9.cell? ⟨p, 0, none⟩ = some (.int .i64 v0) ∧ w9.cell? ⟨p, 1, none⟩ = some (.int .i64 v1) ∧ w9.cell? ⟨p, 2, none⟩ = some (.int .i64 v2) ∧ w9.cell? ⟨p, 3, none⟩ = some (.int .i64 v3) ∧ w9.cell? ⟨p, 4, none⟩ = some (.int .i64 v4) ∧ w9.cell? ⟨p, 5, none⟩ = some (.int .i64 v5)) (by kernel_rfl) ⟨g0, g1, g2, g3, g4, g5⟩ (fun _ => ?_)
      refine wpAnyH_take (i := 0) (oi := { dst := some 47, op := Op.move (Operand.tmp 4), type := 50, pos := "ref.go:233", after := #[], guard := none }) (v := ?_) rfl (by kernel_rfl) (by kernel_rfl) (by kernel_rfl) (fun _ _ _ h => h) (Or.inl ⟨by rfl, ?_⟩) (by trivial) ?_
      rotate_left
      (focus (intro w9 hSw; obtain ⟨k0, k1, k2, k3, k4, k5⟩ := hSw; go_simp <;> with_reducible rfl))
      try simp only [Act.put, List.setIfInBounds_toArray, List.set_cons_zero, List.set_cons_succ]
      refine wpAnyH_take (i := 1) (oi := { dst := some 48, op := Op.indexAddr 50 (Operand.tmp 47) (Operand.const (Value.int IntKind.i64 0)), type := 0, pos := "ref.go:233", after := #[{ on := 0, ground := Ground.data }], guard := none }) (v := ?_) rfl (by kernel_rfl) (by kernel_rfl) (by kernel_rfl) (fun _ _ _ h => h) (Or.inl ⟨by rfl, ?_⟩) (by trivial) ?_
      rotate_left
      (focus (intro w9 hSw; obtain ⟨k0, k1, k2, k3, k4, k5⟩ := hSw; go_simp <;> with_reducible rfl))
      try simp only [Act.put, List.setIfInBounds_toArray, List.set_cons_zero, List.set_cons_succ]
      refine wpAnyH_take (i := 2) (oi := { dst := some 49, op := Op.load 3 (Operand.tmp 48), type := 3, pos := "ref.go:233", after := #[{ on := 1, ground := Ground.data }], guard := none }) (v := ?_) rfl (by kernel_rfl) (by kernel_rfl) (by kernel_rfl) (fun _ _ _ h => h) (Or.inl ⟨by rfl, ?_⟩) (by trivial) ?_
      rotate_left
      (focus (intro w9 hSw; obtain ⟨k0, k1, k2, k3, k4, k5⟩ := hSw; go_simp <;> with_reducible rfl))
      try simp only [Act.put, List.setIfInBounds_toArray, List.set_cons_zero, List.set_cons_succ]
      refine wpAnyH_take (i := 3) (oi := { dst := some 50, op := Op.move (Operand.tmp 4), type := 50, pos := "ref.go:233", after := #[], guard := none }) (v := ?_) rfl (by kernel_rfl) (by kernel_rfl) (by kernel_rfl) (fun _ _ _ h => h) (Or.inl ⟨by rfl, ?_⟩) (by trivial) ?_
      rotate_left
      (focus (intro w9 hSw; obtain ⟨k0, k1, k2, k3, k4, k5⟩ := hSw; go_simp <;> with_reducible rfl))
      try simp only [Act.put, List.setIfInBounds_toArray, List.set_cons_zero, List.set_cons_succ]
      refine wpAnyH_take (i := 4) (oi := { dst := some 51, op := Op.indexAddr 50 (Operand.tmp 50) (Operand.const (Value.int IntKind.i64 1)), type := 0, pos := "ref.go:233", after := #[{ on := 3, ground := Ground.data }], guard := none }) (v := ?_) rfl (by kernel_rfl) (by kernel_rfl) (by kernel_rfl) (fun _ _ _ h => h) (Or.inl ⟨by rfl, ?_⟩) (by trivial) ?_
      rotate_left
      (focus (intro w9 hSw; obtain ⟨k0, k1, k2, k3, k4, k5⟩ := hSw; go_simp <;> with_reducible rfl))
      try simp only [Act.put, List.setIfInBounds_toArray, List.set_cons_zero, List.set_cons_succ]
      refine wpAnyH_take (i := 5) (oi := { dst := some 52, op := Op.load 3 (Operand.tmp 51), type := 3, pos := "ref.go:233", after := #[{ on := 4, ground := Ground.data }], guard := none }) (v := ?_) rfl (by kernel_rfl) (by kernel_rfl) (by kernel_rfl) (fun _ _ _ h => h) (Or.inl ⟨by rfl, ?_⟩) (by trivial) ?_
      rotate_left
      (focus (intro w9 hSw; obtain ⟨k0, k1, k2, k3, k4, k5⟩ := hSw; go_simp <;> with_reducible rfl))
      try simp only [Act.put, List.setIfInBounds_toArray, List.set_cons_zero, List.set_cons_succ]
      refine wpAnyH_take (i := 6) (oi := { dst := some 53, op := Op.move (Operand.tmp 4), type := 50, pos := "ref.go:233", after := #[], guard := none }) (v := ?_) rfl (by kernel_rfl) (by kernel_rfl) (by kernel_rfl) (fun _ _ _ h => h) (Or.inl ⟨by rfl, ?_⟩) (by trivial) ?_
      rotate_left
      (focus (intro w9 hSw; obtain ⟨k0, k1, k2, k3, k4, k5⟩ := hSw; go_simp <;> with_reducible rfl))
      try simp only [Act.put, List.setIfInBounds_toArray, List.set_cons_zero, List.set_cons_succ]
      refine wpAnyH_take (i := 7) (oi := { dst := some 54, op := Op.indexAddr 50 (Operand.tmp 53) (Operand.const (Value.int IntKind.i64 2)), type := 0, pos := "ref.go:233", after := #[{ on := 6, ground := Ground.data }], guard := none }) (v := ?_) rfl (by kernel_rfl) (by kernel_rfl) (by kernel_rfl) (fun _ _ _ h => h) (Or.inl ⟨by rfl, ?_⟩) (by trivial) ?_
      rotate_left
      (focus (intro w9 hSw; obtain ⟨k0, k1, k2, k3, k4, k5⟩ := hSw; go_simp <;> with_reducible rfl))
      try simp only [Act.put, List.setIfInBounds_toArray, List.set_cons_zero, List.set_cons_succ]
      refine wpAnyH_take (i := 8) (oi := { dst := some 55, op := Op.load 3 (Operand.tmp 54), type := 3, pos := "ref.go:233", after := #[{ on := 7, ground := Ground.data }], guard := none }) (v := ?_) rfl (by kernel_rfl) (by kernel_rfl) (by kernel_rfl) (fun _ _ _ h => h) (Or.inl ⟨by rfl, ?_⟩) (by trivial) ?_
      rotate_left
      (focus (intro w9 hSw; obtain ⟨k0, k1, k2, k3, k4, k5⟩ := hSw; go_simp <;> with_reducible rfl))
      try simp only [Act.put, List.setIfInBounds_toArray, List.set_cons_zero, List.set_cons_succ]
      refine wpAnyH_take (i := 9) (oi := { dst := some 56, op := Op.move (Operand.tmp 4), type := 50, pos := "ref.go:233", after := #[], guard := none }) (v := ?_) rfl (by kernel_rfl) (by kernel_rfl) (by kernel_rfl) (fun _ _ _ h => h) (Or.inl ⟨by rfl, ?_⟩) (by trivial) ?_
      rotate_left
      (focus (intro w9 hSw; obtain ⟨k0, k1, k2, k3, k4, k5⟩ := hSw; go_simp <;> with_reducible rfl))
      try simp only [Act.put, List.setIfInBounds_toArray, List.set_cons_zero, List.set_cons_succ]
      refine wpAnyH_take (i := 10) (oi := { dst := some 57, op := Op.indexAddr 50 (Operand.tmp 56) (Operand.const (Value.int IntKind.i64 3)), type := 0, pos := "ref.go:233", after := #[{ on := 9, ground := Ground.data }], guard := none }) (v := ?_) rfl (by kernel_rfl) (by kernel_rfl) (by kernel_rfl) (fun _ _ _ h => h) (Or.inl ⟨by rfl, ?_⟩) (by trivial) ?_
      rotate_left
      (focus (intro w9 hSw; obtain ⟨k0, k1, k2, k3, k4, k5⟩ := hSw; go_simp <;> with_reducible rfl))
      try simp only [Act.put, List.setIfInBounds_toArray, List.set_cons_zero, List.set_cons_succ]
      refine wpAnyH_take (i := 11) (oi := { dst := some 58, op := Op.load 3 (Operand.tmp 57), type := 3, pos := "ref.go:233", after := #[{ on := 10, ground := Ground.data }], guard := none }) (v := ?_) rfl (by kernel_rfl) (by kernel_rfl) (by kernel_rfl) (fun _ _ _ h => h) (Or.inl ⟨by rfl, ?_⟩) (by trivial) ?_
      rotate_left
      (focus (intro w9 hSw; obtain ⟨k0, k1, k2, k3, k4, k5⟩ := hSw; go_simp <;> with_reducible rfl))
      try simp only [Act.put, List.setIfInBounds_toArray, List.set_cons_zero, List.set_cons_succ]
      refine wpAnyH_take (i := 12) (oi := { dst := some 59, op := Op.move (Operand.tmp 4), type := 50, pos := "ref.go:233", after := #[], guard := none }) (v := ?_) rfl (by kernel_rfl) (by kernel_rfl) (by kernel_rfl) (fun _ _ _ h => h) (Or.inl ⟨by rfl, ?_⟩) (by trivial) ?_
      rotate_left
      (focus (intro w9 hSw; obtain ⟨k0, k1, k2, k3, k4, k5⟩ := hSw; go_simp <;> with_reducible rfl))
      try simp only [Act.put, List.setIfInBounds_toArray, List.set_cons_zero, List.set_cons_succ]
      refine wpAnyH_take (i := 13) (oi := { dst := some 60, op := Op.indexAddr 50 (Operand.tmp 59) (Operand.const (Value.int IntKind.i64 4)), type := 0, pos := "ref.go:233", after := #[{ on := 12, ground := Ground.data }], guard := none }) (v := ?_) rfl (by kernel_rfl) (by kernel_rfl) (by kernel_rfl) (fun _ _ _ h => h) (Or.inl ⟨by rfl, ?_⟩) (by trivial) ?_
      rotate_left
      (focus (intro w9 hSw; obtain ⟨k0, k1, k2, k3, k4, k5⟩ := hSw; go_simp <;> with_reducible rfl))
      try simp only [Act.put, List.setIfInBounds_toArray, List.set_cons_zero, List.set_cons_succ]
      refine wpAnyH_take (i := 14) (oi := { dst := some 61, op := Op.load 3 (Operand.tmp 60), type := 3, pos := "ref.go:233", after := #[{ on := 13, ground := Ground.data }], guard := none }) (v := ?_) rfl (by kernel_rfl) (by kernel_rfl) (by kernel_rfl) (fun _ _ _ h => h) (Or.inl ⟨by rfl, ?_⟩) (by trivial) ?_
      rotate_left
      (focus (intro w9 hSw; obtain ⟨k0, k1, k2, k3, k4, k5⟩ := hSw; go_simp <;> with_reducible rfl))
      try simp only [Act.put, List.setIfInBounds_toArray, List.set_cons_zero, List.set_cons_succ]
      refine wpAnyH_take (i := 15) (oi := { dst := some 62, op := Op.move (Operand.tmp 4), type := 50, pos := "ref.go:233", after := #[], guard := none }) (v := ?_) rfl (by kernel_rfl) (by kernel_rfl) (by kernel_rfl) (fun _ _ _ h => h) (Or.inl ⟨by rfl, ?_⟩) (by trivial) ?_
      rotate_left
      (focus (intro w9 hSw; obtain ⟨k0, k1, k2, k3, k4, k5⟩ := hSw; go_simp <;> with_reducible rfl))
      try simp only [Act.put, List.setIfInBounds_toArray, List.set_cons_zero, List.set_cons_succ]
      refine wpAnyH_take (i := 16) (oi := { dst := some 63, op := Op.indexAddr 50 (Operand.tmp 62) (Operand.const (Value.int IntKind.i64 5)), type := 0, pos := "ref.go:233", after := #[{ on := 15, ground := Ground.data }], guard := none }) (v := ?_) rfl (by kernel_rfl) (by kernel_rfl) (by kernel_rfl) (fun _ _ _ h => h) (Or.inl ⟨by rfl, ?_⟩) (by trivial) ?_
      rotate_left
      (focus (intro w9 hSw; obtain ⟨k0, k1, k2, k3, k4, k5⟩ := hSw; go_simp <;> with_reducible rfl))
      try simp only [Act.put, List.setIfInBounds_toArray, List.set_cons_zero, List.set_cons_succ]
      refine wpAnyH_take (i := 17) (oi := { dst := some 64, op := Op.load 3 (Operand.tmp 63), type := 3, pos := "ref.go:233", after := #[{ on := 16, ground := Ground.data }], guard := none }) (v := ?_) rfl (by kernel_rfl) (by kernel_rfl) (by kernel_rfl) (fun _ _ _ h => h) (Or.inl ⟨by rfl, ?_⟩) (by trivial) ?_
      rotate_left
      (focus (intro w9 hSw; obtain ⟨k0, k1, k2, k3, k4, k5⟩ := hSw; go_simp <;> with_reducible rfl))
      try simp only [Act.put, List.setIfInBounds_toArray, List.set_cons_zero, List.set_cons_succ]
      refine wpAnyH_ready (rs := [18]) (by kernel_rfl) (by simp) ?_
      refine AllReadyH.cons (o := { dst := some 65, op := Op.call { callee := Callee.value (Operand.func 27), args := #[Operand.tmp 49, Operand.tmp 52, Operand.tmp 55, Operand.tmp 58, Operand.tmp 61, Operand.tmp 64], argTypes := #[3, 3, 3, 3, 3, 3] }, type := 26, pos := "ref.go:233", after := #[{ on := 2, ground := Ground.data }, { on := 5, ground := Ground.data }, { on := 8, ground := Ground.data }, { on := 11, ground := Ground.data }, { on := 14, ground := Ground.data }, { on := 17, ground := Ground.data }], guard := none }) rfl (fun K hK => ?_) AllReadyH.nil
      go_simp
      refine (rmake_any v0 v1 v2 v3 v4 v5 _).mono ?_
      rintro e w9 ⟨rfl, rfl⟩
      go_wp2_with fail
      refine hK.out _ _ ⟨g0, g1, g2, g3, g4, g5⟩ (fun _ => ?_)
      clear hK K
      try simp only [Act.put, List.setIfInBounds_toArray, List.set_cons_zero, List.set_cons_succ]
      refine wpAnyH_take (i := 19) (oi := { dst := some 66, op := Op.extract (Operand.tmp 65) 0, type := 3, pos := "ref.go:233", after := #[{ on := 18, ground := Ground.data }], guard := none }) (v := ?_) rfl (by kernel_rfl) (by kernel_rfl) (by kernel_rfl) (fun _ _ _ h => h) (Or.inl ⟨by rfl, ?_⟩) (by trivial) ?_
      rotate_left
      (focus (intro w9 hSw; obtain ⟨k0, k1, k2, k3, k4, k5⟩ := hSw; go_simp <;> with_reducible rfl))
      try simp only [Act.put, List.setIfInBounds_toArray, List.set_cons_zero, List.set_cons_succ]
      refine wpAnyH_take (i := 20) (oi := { dst := some 67, op := Op.extract (Operand.tmp 65) 1, type := 23, pos := "ref.go:233", after := #[{ on := 18, ground := Ground.data }], guard := none }) (v := ?_) rfl (by kernel_rfl) (by kernel_rfl) (by kernel_rfl) (fun _ _ _ h => h) (Or.inl ⟨by rfl, ?_⟩) (by trivial) ?_
      rotate_left
      (focus (intro w9 hSw; obtain ⟨k0, k1, k2, k3, k4, k5⟩ := hSw; go_simp <;> with_reducible rfl))
      try simp only [Act.put, List.setIfInBounds_toArray, List.set_cons_zero, List.set_cons_succ]
      refine wpAnyH_take (i := 21) (oi := { dst := some 2, op := Op.assign (Operand.tmp 66), type := 3, pos := "ref.go:233", after := #[{ on := 19, ground := Ground.data }, { on := 18, ground := Ground.chain }, { on := 0, ground := Ground.phase }, { on := 1, ground := Ground.phase }, { on := 2, ground := Ground.phase }, { on := 3, ground := Ground.phase }, { on := 4, ground := Ground.phase }, { on := 5, ground := Ground.phase }, { on := 6, ground := Ground.phase }, { on := 7, ground := Ground.phase }, { on := 8, ground := Ground.phase }, { on := 9, ground := Ground.phase }, { on := 10, ground := Ground.phase }, { on := 11, ground := Ground.phase }, { on := 12, ground := Ground.phase }, { on := 13, ground := Ground.phase }, { on := 14, ground := Ground.phase }, { on := 15, ground := Ground.phase }, { on := 16, ground := Ground.phase }, { on := 17, ground := Ground.phase }, { on := 18, ground := Ground.phase }, { on := 19, ground := Ground.phase }, { on := 20, ground := Ground.phase }], guard := none }) (v := ?_) rfl (by kernel_rfl) (by kernel_rfl) (by kernel_rfl) (fun _ _ _ h => h) (Or.inl ⟨by rfl, ?_⟩) (by trivial) ?_
      rotate_left
      (focus (intro w9 hSw; obtain ⟨k0, k1, k2, k3, k4, k5⟩ := hSw; go_simp <;> with_reducible rfl))
      try simp only [Act.put, List.setIfInBounds_toArray, List.set_cons_zero, List.set_cons_succ]
      refine wpAnyH_take (i := 22) (oi := { dst := some 3, op := Op.assign (Operand.tmp 67), type := 23, pos := "ref.go:233", after := #[{ on := 20, ground := Ground.data }, { on := 21, ground := Ground.chain }, { on := 0, ground := Ground.phase }, { on := 1, ground := Ground.phase }, { on := 2, ground := Ground.phase }, { on := 3, ground := Ground.phase }, { on := 4, ground := Ground.phase }, { on := 5, ground := Ground.phase }, { on := 6, ground := Ground.phase }, { on := 7, ground := Ground.phase }, { on := 8, ground := Ground.phase }, { on := 9, ground := Ground.phase }, { on := 10, ground := Ground.phase }, { on := 11, ground := Ground.phase }, { on := 12, ground := Ground.phase }, { on := 13, ground := Ground.phase }, { on := 14, ground := Ground.phase }, { on := 15, ground := Ground.phase }, { on := 16, ground := Ground.phase }, { on := 17, ground := Ground.phase }, { on := 18, ground := Ground.phase }, { on := 19, ground := Ground.phase }, { on := 20, ground := Ground.phase }, { on := 21, ground := Ground.phase }], guard := none }) (v := ?_) rfl (by kernel_rfl) (by kernel_rfl) (by kernel_rfl) (fun _ _ _ h => h) (Or.inl ⟨by rfl, ?_⟩) (by trivial) ?_
      rotate_left
      (focus (intro w9 hSw; obtain ⟨k0, k1, k2, k3, k4, k5⟩ := hSw; go_simp <;> with_reducible rfl))
      try simp only [Act.put, List.setIfInBounds_toArray, List.set_cons_zero, List.set_cons_succ]
      refine wpAnyH_done (by kernel_rfl) ?_ _
      go_wp2_with fail
      go_ret2
      rw [hV.out]
      exact ⟨rfl, hp.out ▸ b1.drew⟩
end Go.Proofs.YtkeeocidinnnnaaDoor
