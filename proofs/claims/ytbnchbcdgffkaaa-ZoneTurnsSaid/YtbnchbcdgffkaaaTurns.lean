/- voklaw3.ZoneTurns. -/
import Derived.Test.YtbnchbcdgffkaaaRoff
namespace Go.Proofs.Ytbnchbcdgffkaaa
open Go.RowKit
set_option linter.unusedVariables false
set_option maxRecDepth 100000 in
set_option maxHeartbeats 4000000 in
theorem zoneTurns_true {bs : Int} {A A' : Option Addr} {c c' : Nat} {fr : Int} {L : List Sh} {Y : List Yr} {l : Int} {w : World} (hz : ZAt w w.heap.size A A' L Y) :
    Calls Try.prog 4 #[zv bs A L.length c A' Y.length c' fr, .int .i64 l] w fun e w' => e = .returned (.bool true) ∧ Below w.heap.size w w' := by
  by_cases qf : L.length ≤ 400 ∧ Y.length ≤ 400
  · have ft := decide_eq_true qf
    go_enter Try.func4, Try.ntmps4
    go_wp2_with fail
    have s : St w (w.alloc (zo bs A L.length c A' Y.length c' fr)) w.heap.size bs A c A' c' fr L Y := St.new_ hz
    generalize w.alloc (zo bs A L.length c A' Y.length c' fr) = w1 at s ⊢
    obtain ⟨lt, c0, c1, c2, c3⟩ := s.cells
    refine (first_any _).mono ?_
    rintro e wz ⟨rfl, bb⟩
    replace s := s.step bb
    clear bb lt c0 c1 c2 c3
    obtain ⟨lt, c0, c1, c2, c3⟩ := s.cells
    go_wp2_with fail
    refine (few_any).mono ?_
    rintro e wz ⟨rfl, bb⟩
    replace s := s.step bb
    clear bb lt c0 c1 c2 c3
    obtain ⟨lt, c0, c1, c2, c3⟩ := s.cells
    rw [ft]
    go_wp2_with fail
    replace s := s.drew
    clear lt c0 c1 c2 c3
    obtain ⟨lt, c0, c1, c2, c3⟩ := s.cells
    refine wp_region_held_drew (S := fun w9 => St w w9 w.heap.size bs A c A' c' fr L Y) (by kernel_rfl) s (fun _ => ?_)
    refine wpAnyH_ready (rs := [0]) (by kernel_rfl) (by simp) ?_
    refine AllReadyH.cons (o := { dst := some 11, op := Op.call { callee := Callee.value (Operand.func 12), args := #[], argTypes := #[] }, type := 4, pos := "law.go:49", after := #[], guard := none }) rfl (fun K hK => ?_) AllReadyH.nil
    go_simp
    refine (first_any _).mono ?_
    rintro e wz ⟨rfl, bb⟩
    replace s := s.step bb
    clear bb lt c0 c1 c2 c3
    obtain ⟨lt, c0, c1, c2, c3⟩ := s.cells
    go_wp2_with fail
    refine hK.out _ _ s (fun _ => ?_)
    clear hK K
    try simp only [Act.put, List.setIfInBounds_toArray, List.set_cons_zero, List.set_cons_succ]
    refine wpAnyH_take (i := 1) (oi := { dst := some 12, op := Op.move (Operand.tmp 11), type := 4, pos := "law.go:49", after := #[{ on := 0, ground := Ground.data }, { on := 0, ground := Ground.chain }], guard := none }) (v := ?_) rfl (by kernel_rfl) (by kernel_rfl) (by kernel_rfl) (fun _ _ _ h => h) (Or.inl ⟨by rfl, ?_⟩) (by trivial) ?_
    rotate_left
    (focus (intro w9 hSw; have s9 := hSw; obtain ⟨lt, c0, c1, c2, c3⟩ := s9.cells; go_simp <;> with_reducible rfl))
    try simp only [Act.put, List.setIfInBounds_toArray, List.set_cons_zero, List.set_cons_succ]
    refine wpAnyH_take (i := 2) (oi := { dst := some 13, op := Op.load 25 (Operand.tmp 2), type := 25, pos := "law.go:49", after := #[{ on := 1, ground := Ground.guard }], guard := some (1, true) }) (v := ?_) rfl (by kernel_rfl) (by kernel_rfl) (by kernel_rfl) (fun _ _ _ h => h) (Or.inl ⟨by rfl, ?_⟩) (by trivial) ?_
    rotate_left
    (focus (intro w9 hSw; have s9 := hSw; obtain ⟨lt, c0, c1, c2, c3⟩ := s9.cells; go_simp <;> with_reducible rfl))
    try simp only [Act.put, List.setIfInBounds_toArray, List.set_cons_zero, List.set_cons_succ]
    refine wpAnyH_take (i := 3) (oi := { dst := some 14, op := Op.move (Operand.tmp 1), type := 3, pos := "law.go:49", after := #[{ on := 1, ground := Ground.guard }], guard := some (1, true) }) (v := ?_) rfl (by kernel_rfl) (by kernel_rfl) (by kernel_rfl) (fun _ _ _ h => h) (Or.inl ⟨by rfl, ?_⟩) (by trivial) ?_
    rotate_left
    (focus (intro w9 hSw; have s9 := hSw; obtain ⟨lt, c0, c1, c2, c3⟩ := s9.cells; go_simp <;> with_reducible rfl))
    try simp only [Act.put, List.setIfInBounds_toArray, List.set_cons_zero, List.set_cons_succ]
    refine wpAnyH_take (i := 5) (oi := { dst := some 16, op := Op.load 25 (Operand.tmp 2), type := 25, pos := "law.go:49", after := #[{ on := 1, ground := Ground.guard }], guard := some (1, true) }) (v := ?_) rfl (by kernel_rfl) (by kernel_rfl) (by kernel_rfl) (fun _ _ _ h => h) (Or.inl ⟨by rfl, ?_⟩) (by trivial) ?_
    rotate_left
    (focus (intro w9 hSw; have s9 := hSw; obtain ⟨lt, c0, c1, c2, c3⟩ := s9.cells; go_simp <;> with_reducible rfl))
    try simp only [Act.put, List.setIfInBounds_toArray, List.set_cons_zero, List.set_cons_succ]
    refine wpAnyH_take (i := 6) (oi := { dst := some 17, op := Op.move (Operand.tmp 1), type := 3, pos := "law.go:49", after := #[{ on := 1, ground := Ground.guard }], guard := some (1, true) }) (v := ?_) rfl (by kernel_rfl) (by kernel_rfl) (by kernel_rfl) (fun _ _ _ h => h) (Or.inl ⟨by rfl, ?_⟩) (by trivial) ?_
    rotate_left
    (focus (intro w9 hSw; have s9 := hSw; obtain ⟨lt, c0, c1, c2, c3⟩ := s9.cells; go_simp <;> with_reducible rfl))
    try simp only [Act.put, List.setIfInBounds_toArray, List.set_cons_zero, List.set_cons_succ]
    refine wpAnyH_ready (rs := [4]) (by kernel_rfl) (by simp) ?_
    refine AllReadyH.cons (o := { dst := some 15, op := Op.call { callee := Callee.value (Operand.func 26), args := #[Operand.tmp 13, Operand.tmp 14], argTypes := #[25, 3] }, type := 3, pos := "law.go:49", after := #[{ on := 2, ground := Ground.data }, { on := 3, ground := Ground.data }, { on := 1, ground := Ground.chain }, { on := 1, ground := Ground.guard }], guard := some (1, true) }) rfl (fun K hK => ?_) AllReadyH.nil
    go_simp
    refine (utc_any s.z s.le).mono ?_
    rintro e wz ⟨v, rfl, bb, hv⟩
    replace s := s.step bb
    clear bb lt c0 c1 c2 c3
    obtain ⟨lt, c0, c1, c2, c3⟩ := s.cells
    replace hv := Lib.hid hv
    go_wp2_with fail
    refine hK.out _ _ s (fun _ => ?_)
    clear hK K
    try simp only [Act.put, List.setIfInBounds_toArray, List.set_cons_zero, List.set_cons_succ]
    refine wpAnyH_ready (rs := [7]) (by kernel_rfl) (by simp) ?_
    refine AllReadyH.cons (o := { dst := some 18, op := Op.call { callee := Callee.value (Operand.func 27), args := #[Operand.tmp 16, Operand.tmp 17], argTypes := #[25, 3] }, type := 3, pos := "law.go:49", after := #[{ on := 5, ground := Ground.data }, { on := 6, ground := Ground.data }, { on := 4, ground := Ground.chain }, { on := 1, ground := Ground.guard }], guard := some (1, true) }) rfl (fun K hK => ?_) AllReadyH.nil
    go_simp
    refine (rutc_any s.z s.le).mono ?_
    rintro e wz ⟨v2, rfl, bb, hv2⟩
    replace s := s.step bb
    clear bb lt c0 c1 c2 c3
    obtain ⟨lt, c0, c1, c2, c3⟩ := s.cells
    replace hv2 := hv.out.same hv2
    subst hv2
    go_wp2_with fail
    refine hK.out _ _ s (fun _ => ?_)
    clear hK K
    try simp only [Act.put, List.setIfInBounds_toArray, List.set_cons_zero, List.set_cons_succ]
    refine wpAnyH_take (i := 8) (oi := { dst := some 19, op := Op.binOp BinOp.eql 3 (Operand.tmp 15) (Operand.tmp 18) 3, type := 4, pos := "law.go:49", after := #[{ on := 4, ground := Ground.data }, { on := 7, ground := Ground.data }, { on := 1, ground := Ground.guard }], guard := some (1, true) }) (v := ?_) rfl (by kernel_rfl) (by kernel_rfl) (by kernel_rfl) (fun _ _ _ h => h) (Or.inl ⟨by rfl, ?_⟩) (by trivial) ?_
    rotate_left
    (focus (intro w9 hSw; have s9 := hSw; obtain ⟨lt, c0, c1, c2, c3⟩ := s9.cells; go_simp <;> with_reducible rfl))
    try simp only [Act.put, List.setIfInBounds_toArray, List.set_cons_zero, List.set_cons_succ]
    refine wpAnyH_take (i := 9) (oi := { dst := some 20, op := Op.pick (Operand.tmp 12) (Operand.tmp 19) (Operand.const (Value.bool false)), type := 4, pos := "law.go:49", after := #[{ on := 1, ground := Ground.data }, { on := 8, ground := Ground.data }], guard := none }) (v := ?_) rfl (by kernel_rfl) (by kernel_rfl) (by kernel_rfl) (fun _ _ _ h => h) (Or.inl ⟨by rfl, ?_⟩) (by trivial) ?_
    rotate_left
    (focus (intro w9 hSw; have s9 := hSw; obtain ⟨lt, c0, c1, c2, c3⟩ := s9.cells; go_simp <;> with_reducible rfl))
    try simp only [Act.put, List.setIfInBounds_toArray, List.set_cons_zero, List.set_cons_succ]
    refine wpAnyH_take (i := 10) (oi := { dst := some 4, op := Op.assign (Operand.tmp 20), type := 4, pos := "law.go:49", after := #[{ on := 9, ground := Ground.data }, { on := 7, ground := Ground.chain }, { on := 0, ground := Ground.phase }, { on := 1, ground := Ground.phase }, { on := 2, ground := Ground.phase }, { on := 3, ground := Ground.phase }, { on := 4, ground := Ground.phase }, { on := 5, ground := Ground.phase }, { on := 6, ground := Ground.phase }, { on := 7, ground := Ground.phase }, { on := 8, ground := Ground.phase }, { on := 9, ground := Ground.phase }], guard := none }) (v := ?_) rfl (by kernel_rfl) (by kernel_rfl) (by kernel_rfl) (fun _ _ _ h => h) (Or.inl ⟨by rfl, ?_⟩) (by trivial) ?_
    rotate_left
    (focus (intro w9 hSw; have s9 := hSw; obtain ⟨lt, c0, c1, c2, c3⟩ := s9.cells; go_simp <;> with_reducible rfl))
    try simp only [Act.put, List.setIfInBounds_toArray, List.set_cons_zero, List.set_cons_succ]
    refine wpAnyH_done (by kernel_rfl) ?_ _
    go_wp2_with fail
    go_ret
    exact ⟨rfl, s.b⟩
  · have ft := decide_eq_false qf
    go_enter Try.func4, Try.ntmps4
    go_wp2_with fail
    have s : St w (w.alloc (zo bs A L.length c A' Y.length c' fr)) w.heap.size bs A c A' c' fr L Y := St.new_ hz
    generalize w.alloc (zo bs A L.length c A' Y.length c' fr) = w1 at s ⊢
    obtain ⟨lt, c0, c1, c2, c3⟩ := s.cells
    refine (first_any _).mono ?_
    rintro e wz ⟨rfl, bb⟩
    replace s := s.step bb
    clear bb lt c0 c1 c2 c3
    obtain ⟨lt, c0, c1, c2, c3⟩ := s.cells
    go_wp2_with fail
    refine (few_any).mono ?_
    rintro e wz ⟨rfl, bb⟩
    replace s := s.step bb
    clear bb lt c0 c1 c2 c3
    obtain ⟨lt, c0, c1, c2, c3⟩ := s.cells
    rw [ft]
    go_wp2_with fail
    refine (first_any _).mono ?_
    rintro e wz ⟨rfl, bb⟩
    replace s := s.step bb
    clear bb lt c0 c1 c2 c3
    obtain ⟨lt, c0, c1, c2, c3⟩ := s.cells
    go_wp2_with fail
    go_ret
    exact ⟨rfl, s.b⟩
end Go.Proofs.Ytbnchbcdgffkaaa
