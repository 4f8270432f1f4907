/- voklaw3.ZonePlain. -/
import Derived.Test.YtbnchbcdgffkaaaSt
import Derived.Deep.RegionHeld3
import Derived.Deep.DrawnRows
namespace Go.Proofs.Ytbnchbcdgffkaaa
open Go.RowKit
set_option linter.unusedVariables false
theorem none_at {w : World} {B : Nat} : ZAt w B none none [] [] := ⟨fun k h => by simp at h, fun k h => by simp at h, by simp, by simp⟩
theorem plain_may {bs : Int} (h : OffOk bs) : MayZ bs [] [] 0 := ⟨h, ⟨⟨fun k h => by simp at h, fun k h => by simp at h⟩, by simp⟩, .inl ⟨rfl, rfl⟩⟩
theorem plain_bef {u : Int} {r : Option Sh} (h : IsBef (IsShift [] [] 0) u r) : r = none := by
  cases r with
  | none => rfl
  | some s =>
    rcases h.1 with h | ⟨_, _, _, _, h, _⟩ <;> cases h
theorem plain_aft {u : Int} {r : Option Sh} (h : IsAft (IsShift [] [] 0) u r) : r = none := by
  cases r with
  | none => rfl
  | some s =>
    rcases h.1 with h | ⟨_, _, _, _, h, _⟩ <;> cases h
theorem plain_off {bs u o : Int} (h : IsOff bs (IsShift [] [] 0) u o) : o = bs := by
  obtain ⟨r, h1, rfl⟩ := h
  obtain rfl := plain_bef h1
  rfl
theorem plain_utc {bs l v : Int} (h : UtcRes bs [] [] 0 l v) (hW : Within l) (hM : MayZ bs [] [] 0) : v = l - bs := by
  obtain ⟨a, r, hu, rfl⟩ := h.yes hW hM
  obtain rfl := plain_aft hu.aft
  obtain rfl := plain_off hu.off
  rfl
set_option maxRecDepth 100000 in
set_option maxHeartbeats 4000000 in
theorem zonePlain_true {bs u : Int} {w : World} :
    Calls Try.prog 8 #[.int .i64 bs, .int .i64 u] w fun e w' => e = .returned (.bool true) ∧ Below w.heap.size w w' := by
  by_cases q1 : bs < -64800
  · have q1t := decide_eq_true q1
    have hM : ¬ MayZ bs [] [] 0 := fun h => by have := h.base; obtain ⟨h1, h2⟩ := this; omega
    go_enter Try.func8, Try.ntmps8
    go_wp2_with fail
    refine (first_any _).mono ?_
    rintro e wz ⟨rfl, b⟩
    go_wp2_with fail
    have s : St w (wz.alloc (zo bs none 0 0 none 0 0 0)) wz.heap.size bs none 0 none 0 0 [] [] := by
      refine ⟨b.alloc b.size _, none_at, Boxed.new_ wz⟩
    generalize wz.alloc (zo bs none 0 0 none 0 0 0) = w1 at s ⊢
    generalize wz.heap.size = p at s ⊢
    obtain ⟨lt, c0, c1, c2, c3⟩ := s.cells
    refine (first_any _).mono ?_
    rintro e wz ⟨rfl, bb⟩
    replace s := s.step bb
    clear bb lt c0 c1 c2 c3
    obtain ⟨lt, c0, c1, c2, c3⟩ := s.cells
    go_wp2_with fail
    refine (mayZone_any bs none 0 none 0 0 [] [] w.heap.size _ s.z.s s.z.y s.le s.z.l s.z.l').mono ?_
    rintro e wz ⟨rfl, bb⟩
    replace s := s.step bb
    clear bb lt c0 c1 c2 c3
    obtain ⟨lt, c0, c1, c2, c3⟩ := s.cells
    rw [mayZB_no hM]
    go_wp2_with fail
    refine (local_any (L := []) (Y := []) s.z s.le).mono ?_
    rintro e wz ⟨l, rfl, bb, -, hl⟩
    replace s := s.step bb
    clear bb lt c0 c1 c2 c3
    obtain ⟨lt, c0, c1, c2, c3⟩ := s.cells
    obtain rfl := hl fun h => hM h.2
    go_wp2_with fail
    refine (utc_any (L := []) (Y := []) s.z s.le).mono ?_
    rintro e wz ⟨v, rfl, bb, hv⟩
    replace s := s.step bb
    clear bb lt c0 c1 c2 c3
    obtain ⟨lt, c0, c1, c2, c3⟩ := s.cells
    obtain rfl := hv.no fun h => hM h.2
    go_wp2_with fail
    go_ret
    exact ⟨rfl, s.b⟩
  · have q1t := decide_eq_false q1
    by_cases q2 : 64800 < bs
    · have q2t := decide_eq_true q2
      have hM : ¬ MayZ bs [] [] 0 := fun h => by have := h.base; obtain ⟨h1, h2⟩ := this; omega
      go_enter Try.func8, Try.ntmps8
      go_wp2_with fail
      refine (first_any _).mono ?_
      rintro e wz ⟨rfl, b⟩
      go_wp2_with fail
      have s : St w (wz.alloc (zo bs none 0 0 none 0 0 0)) wz.heap.size bs none 0 none 0 0 [] [] := by
        refine ⟨b.alloc b.size _, none_at, Boxed.new_ wz⟩
      generalize wz.alloc (zo bs none 0 0 none 0 0 0) = w1 at s ⊢
      generalize wz.heap.size = p at s ⊢
      obtain ⟨lt, c0, c1, c2, c3⟩ := s.cells
      refine (first_any _).mono ?_
      rintro e wz ⟨rfl, bb⟩
      replace s := s.step bb
      clear bb lt c0 c1 c2 c3
      obtain ⟨lt, c0, c1, c2, c3⟩ := s.cells
      go_wp2_with fail
      refine (mayZone_any bs none 0 none 0 0 [] [] w.heap.size _ s.z.s s.z.y s.le s.z.l s.z.l').mono ?_
      rintro e wz ⟨rfl, bb⟩
      replace s := s.step bb
      clear bb lt c0 c1 c2 c3
      obtain ⟨lt, c0, c1, c2, c3⟩ := s.cells
      rw [mayZB_no hM]
      go_wp2_with fail
      refine (local_any (L := []) (Y := []) s.z s.le).mono ?_
      rintro e wz ⟨l, rfl, bb, -, hl⟩
      replace s := s.step bb
      clear bb lt c0 c1 c2 c3
      obtain ⟨lt, c0, c1, c2, c3⟩ := s.cells
      obtain rfl := hl fun h => hM h.2
      go_wp2_with fail
      refine (utc_any (L := []) (Y := []) s.z s.le).mono ?_
      rintro e wz ⟨v, rfl, bb, hv⟩
      replace s := s.step bb
      clear bb lt c0 c1 c2 c3
      obtain ⟨lt, c0, c1, c2, c3⟩ := s.cells
      obtain rfl := hv.no fun h => hM h.2
      go_wp2_with fail
      go_ret
      exact ⟨rfl, s.b⟩
    · have q2t := decide_eq_false q2
      have hO : OffOk bs := ⟨by omega, by omega⟩
      have hM := plain_may hO
      have mt := mayZB_yes hM
      by_cases q3 : u < -60000000000
      · have q3t := decide_eq_true q3
        go_enter Try.func8, Try.ntmps8
        go_wp2_with fail
        refine (first_any _).mono ?_
        rintro e wz ⟨rfl, b⟩
        go_wp2_with fail
        have s : St w (wz.alloc (zo bs none 0 0 none 0 0 0)) wz.heap.size bs none 0 none 0 0 [] [] := by
          refine ⟨b.alloc b.size _, none_at, Boxed.new_ wz⟩
        generalize wz.alloc (zo bs none 0 0 none 0 0 0) = w1 at s ⊢
        generalize wz.heap.size = p at s ⊢
        obtain ⟨lt, c0, c1, c2, c3⟩ := s.cells
        refine (first_any _).mono ?_
        rintro e wz ⟨rfl, bb⟩
        replace s := s.step bb
        clear bb lt c0 c1 c2 c3
        obtain ⟨lt, c0, c1, c2, c3⟩ := s.cells
        go_wp2_with fail
        go_ret
        exact ⟨rfl, s.b⟩
      · have q3t := decide_eq_false q3
        by_cases q4 : 250000000000 < u
        · have q4t := decide_eq_true q4
          go_enter Try.func8, Try.ntmps8
          go_wp2_with fail
          refine (first_any _).mono ?_
          rintro e wz ⟨rfl, b⟩
          go_wp2_with fail
          have s : St w (wz.alloc (zo bs none 0 0 none 0 0 0)) wz.heap.size bs none 0 none 0 0 [] [] := by
            refine ⟨b.alloc b.size _, none_at, Boxed.new_ wz⟩
          generalize wz.alloc (zo bs none 0 0 none 0 0 0) = w1 at s ⊢
          generalize wz.heap.size = p at s ⊢
          obtain ⟨lt, c0, c1, c2, c3⟩ := s.cells
          refine (first_any _).mono ?_
          rintro e wz ⟨rfl, bb⟩
          replace s := s.step bb
          clear bb lt c0 c1 c2 c3
          obtain ⟨lt, c0, c1, c2, c3⟩ := s.cells
          go_wp2_with fail
          go_ret
          exact ⟨rfl, s.b⟩
        · have q4t := decide_eq_false q4
          go_enter Try.func8, Try.ntmps8
          go_wp2_with fail
          refine (first_any _).mono ?_
          rintro e wz ⟨rfl, b⟩
          go_wp2_with fail
          have s : St w (wz.alloc (zo bs none 0 0 none 0 0 0)) wz.heap.size bs none 0 none 0 0 [] [] := by
            refine ⟨b.alloc b.size _, none_at, Boxed.new_ wz⟩
          generalize wz.alloc (zo bs none 0 0 none 0 0 0) = w1 at s ⊢
          generalize wz.heap.size = p at s ⊢
          obtain ⟨lt, c0, c1, c2, c3⟩ := s.cells
          have zw : IntKind.i64.wrap (u - bs) = u - bs := wi64 (by omega) (by omega)
          replace s := s.drew
          clear lt c0 c1 c2 c3
          obtain ⟨lt, c0, c1, c2, c3⟩ := s.cells
          refine wp_region_held_drew (S := fun w9 => St w w9 p bs none 0 none 0 0 [] []) (by kernel_rfl) s (fun _ => ?_)
          refine wpAnyH_ready (rs := [0]) (by kernel_rfl) (by simp) ?_
          refine AllReadyH.cons (o := { dst := some 41, op := Op.call { callee := Callee.value (Operand.func 12), args := #[], argTypes := #[] }, type := 4, pos := "law.go:115", after := #[], guard := none }) rfl (fun K hK => ?_) AllReadyH.nil
          go_simp
          refine (first_any _).mono ?_
          rintro e wz ⟨rfl, bb⟩
          replace s := s.step bb
          clear bb lt c0 c1 c2 c3
          obtain ⟨lt, c0, c1, c2, c3⟩ := s.cells
          go_wp2_with fail
          refine hK.out _ _ s (fun _ => ?_)
          clear hK K
          try simp only [Act.put, List.setIfInBounds_toArray, List.set_cons_zero, List.set_cons_succ]
          refine wpAnyH_take (i := 1) (oi := { dst := some 42, op := Op.move (Operand.tmp 41), type := 4, pos := "law.go:115", after := #[{ on := 0, ground := Ground.data }, { on := 0, ground := Ground.chain }], guard := none }) (v := ?_) rfl (by kernel_rfl) (by kernel_rfl) (by kernel_rfl) (fun _ _ _ h => h) (Or.inl ⟨by rfl, ?_⟩) (by trivial) ?_
          rotate_left
          (focus (intro w9 hSw; obtain ⟨lt, c0, c1, c2, c3⟩ := hSw.cells; go_simp <;> with_reducible rfl))
          try simp only [Act.put, List.setIfInBounds_toArray, List.set_cons_zero, List.set_cons_succ]
          refine wpAnyH_take (i := 2) (oi := { dst := some 43, op := Op.load 25 (Operand.tmp 5), type := 25, pos := "law.go:115", after := #[{ on := 1, ground := Ground.guard }], guard := some (1, true) }) (v := ?_) rfl (by kernel_rfl) (by kernel_rfl) (by kernel_rfl) (fun _ _ _ h => h) (Or.inl ⟨by rfl, ?_⟩) (by trivial) ?_
          rotate_left
          (focus (intro w9 hSw; obtain ⟨lt, c0, c1, c2, c3⟩ := hSw.cells; go_simp <;> with_reducible rfl))
          try simp only [Act.put, List.setIfInBounds_toArray, List.set_cons_zero, List.set_cons_succ]
          refine wpAnyH_ready (rs := [3]) (by kernel_rfl) (by simp) ?_
          refine AllReadyH.cons (o := { dst := some 44, op := Op.call { callee := Callee.value (Operand.func 18), args := #[Operand.tmp 43], argTypes := #[25] }, type := 4, pos := "law.go:115", after := #[{ on := 2, ground := Ground.data }, { on := 1, ground := Ground.chain }, { on := 1, ground := Ground.guard }], guard := some (1, true) }) rfl (fun K hK => ?_) AllReadyH.nil
          go_simp
          refine (mayZone_any bs none 0 none 0 0 [] [] w.heap.size _ s.z.s s.z.y s.le s.z.l s.z.l').mono ?_
          rintro e wz ⟨rfl, bb⟩
          replace s := s.step bb
          clear bb lt c0 c1 c2 c3
          obtain ⟨lt, c0, c1, c2, c3⟩ := s.cells
          rw [mt]
          go_wp2_with fail
          refine hK.out _ _ s (fun _ => ?_)
          clear hK K
          try simp only [Act.put, List.setIfInBounds_toArray, List.set_cons_zero, List.set_cons_succ]
          refine wpAnyH_take (i := 4) (oi := { dst := some 45, op := Op.pick (Operand.tmp 42) (Operand.tmp 44) (Operand.const (Value.bool false)), type := 4, pos := "law.go:115", after := #[{ on := 1, ground := Ground.data }, { on := 3, ground := Ground.data }], guard := none }) (v := ?_) rfl (by kernel_rfl) (by kernel_rfl) (by kernel_rfl) (fun _ _ _ h => h) (Or.inl ⟨by rfl, ?_⟩) (by trivial) ?_
          rotate_left
          (focus (intro w9 hSw; obtain ⟨lt, c0, c1, c2, c3⟩ := hSw.cells; go_simp <;> with_reducible rfl))
          try simp only [Act.put, List.setIfInBounds_toArray, List.set_cons_zero, List.set_cons_succ]
          refine wpAnyH_take (i := 5) (oi := { dst := some 46, op := Op.move (Operand.tmp 45), type := 4, pos := "law.go:115", after := #[{ on := 4, ground := Ground.data }, { on := 3, ground := Ground.chain }], guard := none }) (v := ?_) rfl (by kernel_rfl) (by kernel_rfl) (by kernel_rfl) (fun _ _ _ h => h) (Or.inl ⟨by rfl, ?_⟩) (by trivial) ?_
          rotate_left
          (focus (intro w9 hSw; obtain ⟨lt, c0, c1, c2, c3⟩ := hSw.cells; go_simp <;> with_reducible rfl))
          try simp only [Act.put, List.setIfInBounds_toArray, List.set_cons_zero, List.set_cons_succ]
          refine wpAnyH_take (i := 6) (oi := { dst := some 47, op := Op.load 25 (Operand.tmp 5), type := 25, pos := "law.go:115", after := #[{ on := 5, ground := Ground.guard }], guard := some (5, true) }) (v := ?_) rfl (by kernel_rfl) (by kernel_rfl) (by kernel_rfl) (fun _ _ _ h => h) (Or.inl ⟨by rfl, ?_⟩) (by trivial) ?_
          rotate_left
          (focus (intro w9 hSw; obtain ⟨lt, c0, c1, c2, c3⟩ := hSw.cells; go_simp <;> with_reducible rfl))
          try simp only [Act.put, List.setIfInBounds_toArray, List.set_cons_zero, List.set_cons_succ]
          refine wpAnyH_take (i := 7) (oi := { dst := some 48, op := Op.move (Operand.tmp 1), type := 3, pos := "law.go:115", after := #[{ on := 5, ground := Ground.guard }], guard := some (5, true) }) (v := ?_) rfl (by kernel_rfl) (by kernel_rfl) (by kernel_rfl) (fun _ _ _ h => h) (Or.inl ⟨by rfl, ?_⟩) (by trivial) ?_
          rotate_left
          (focus (intro w9 hSw; obtain ⟨lt, c0, c1, c2, c3⟩ := hSw.cells; go_simp <;> with_reducible rfl))
          try simp only [Act.put, List.setIfInBounds_toArray, List.set_cons_zero, List.set_cons_succ]
          refine wpAnyH_take (i := 9) (oi := { dst := some 50, op := Op.move (Operand.tmp 0), type := 3, pos := "law.go:115", after := #[{ on := 5, ground := Ground.guard }], guard := some (5, true) }) (v := ?_) rfl (by kernel_rfl) (by kernel_rfl) (by kernel_rfl) (fun _ _ _ h => h) (Or.inl ⟨by rfl, ?_⟩) (by trivial) ?_
          rotate_left
          (focus (intro w9 hSw; obtain ⟨lt, c0, c1, c2, c3⟩ := hSw.cells; go_simp <;> with_reducible rfl))
          try simp only [Act.put, List.setIfInBounds_toArray, List.set_cons_zero, List.set_cons_succ]
          refine wpAnyH_ready (rs := [8]) (by kernel_rfl) (by simp) ?_
          refine AllReadyH.cons (o := { dst := some 49, op := Op.call { callee := Callee.value (Operand.func 20), args := #[Operand.tmp 47, Operand.tmp 48], argTypes := #[25, 3] }, type := 3, pos := "law.go:115", after := #[{ on := 6, ground := Ground.data }, { on := 7, ground := Ground.data }, { on := 5, ground := Ground.chain }, { on := 5, ground := Ground.guard }], guard := some (5, true) }) rfl (fun K hK => ?_) AllReadyH.nil
          go_simp
          refine (zoffset_any (L := []) (Y := []) s.z s.le).mono ?_
          rintro e wz ⟨o, rfl, bb, hr, -⟩
          replace s := s.step bb
          clear bb lt c0 c1 c2 c3
          obtain ⟨lt, c0, c1, c2, c3⟩ := s.cells
          replace hr := (plain_off (hr ⟨⟨by omega, by omega⟩, hM⟩)).symm
          subst hr
          go_wp2_with fail
          refine hK.out _ _ s (fun _ => ?_)
          clear hK K
          try simp only [Act.put, List.setIfInBounds_toArray, List.set_cons_zero, List.set_cons_succ]
          refine wpAnyH_take (i := 10) (oi := { dst := some 51, op := Op.binOp BinOp.eql 3 (Operand.tmp 49) (Operand.tmp 50) 3, type := 4, pos := "law.go:115", after := #[{ on := 8, ground := Ground.data }, { on := 9, ground := Ground.data }, { on := 5, ground := Ground.guard }], guard := some (5, true) }) (v := ?_) rfl (by kernel_rfl) (by kernel_rfl) (by kernel_rfl) (fun _ _ _ h => h) (Or.inl ⟨by rfl, ?_⟩) (by trivial) ?_
          rotate_left
          (focus (intro w9 hSw; obtain ⟨lt, c0, c1, c2, c3⟩ := hSw.cells; go_simp <;> with_reducible rfl))
          try simp only [Act.put, List.setIfInBounds_toArray, List.set_cons_zero, List.set_cons_succ]
          refine wpAnyH_take (i := 11) (oi := { dst := some 52, op := Op.pick (Operand.tmp 46) (Operand.tmp 51) (Operand.const (Value.bool false)), type := 4, pos := "law.go:115", after := #[{ on := 5, ground := Ground.data }, { on := 10, ground := Ground.data }], guard := none }) (v := ?_) rfl (by kernel_rfl) (by kernel_rfl) (by kernel_rfl) (fun _ _ _ h => h) (Or.inl ⟨by rfl, ?_⟩) (by trivial) ?_
          rotate_left
          (focus (intro w9 hSw; obtain ⟨lt, c0, c1, c2, c3⟩ := hSw.cells; go_simp <;> with_reducible rfl))
          try simp only [Act.put, List.setIfInBounds_toArray, List.set_cons_zero, List.set_cons_succ]
          refine wpAnyH_take (i := 12) (oi := { dst := some 53, op := Op.move (Operand.tmp 52), type := 4, pos := "law.go:115", after := #[{ on := 11, ground := Ground.data }, { on := 8, ground := Ground.chain }], guard := none }) (v := ?_) rfl (by kernel_rfl) (by kernel_rfl) (by kernel_rfl) (fun _ _ _ h => h) (Or.inl ⟨by rfl, ?_⟩) (by trivial) ?_
          rotate_left
          (focus (intro w9 hSw; obtain ⟨lt, c0, c1, c2, c3⟩ := hSw.cells; go_simp <;> with_reducible rfl))
          try simp only [Act.put, List.setIfInBounds_toArray, List.set_cons_zero, List.set_cons_succ]
          refine wpAnyH_take (i := 13) (oi := { dst := some 54, op := Op.load 25 (Operand.tmp 5), type := 25, pos := "law.go:115", after := #[{ on := 12, ground := Ground.guard }], guard := some (12, true) }) (v := ?_) rfl (by kernel_rfl) (by kernel_rfl) (by kernel_rfl) (fun _ _ _ h => h) (Or.inl ⟨by rfl, ?_⟩) (by trivial) ?_
          rotate_left
          (focus (intro w9 hSw; obtain ⟨lt, c0, c1, c2, c3⟩ := hSw.cells; go_simp <;> with_reducible rfl))
          try simp only [Act.put, List.setIfInBounds_toArray, List.set_cons_zero, List.set_cons_succ]
          refine wpAnyH_take (i := 14) (oi := { dst := some 55, op := Op.move (Operand.tmp 1), type := 3, pos := "law.go:115", after := #[{ on := 12, ground := Ground.guard }], guard := some (12, true) }) (v := ?_) rfl (by kernel_rfl) (by kernel_rfl) (by kernel_rfl) (fun _ _ _ h => h) (Or.inl ⟨by rfl, ?_⟩) (by trivial) ?_
          rotate_left
          (focus (intro w9 hSw; obtain ⟨lt, c0, c1, c2, c3⟩ := hSw.cells; go_simp <;> with_reducible rfl))
          try simp only [Act.put, List.setIfInBounds_toArray, List.set_cons_zero, List.set_cons_succ]
          refine wpAnyH_take (i := 16) (oi := { dst := some 57, op := Op.move (Operand.tmp 1), type := 3, pos := "law.go:115", after := #[{ on := 12, ground := Ground.guard }], guard := some (12, true) }) (v := ?_) rfl (by kernel_rfl) (by kernel_rfl) (by kernel_rfl) (fun _ _ _ h => h) (Or.inl ⟨by rfl, ?_⟩) (by trivial) ?_
          rotate_left
          (focus (intro w9 hSw; obtain ⟨lt, c0, c1, c2, c3⟩ := hSw.cells; go_simp <;> with_reducible rfl))
          try simp only [Act.put, List.setIfInBounds_toArray, List.set_cons_zero, List.set_cons_succ]
          refine wpAnyH_take (i := 17) (oi := { dst := some 58, op := Op.move (Operand.tmp 0), type := 3, pos := "law.go:115", after := #[{ on := 12, ground := Ground.guard }], guard := some (12, true) }) (v := ?_) rfl (by kernel_rfl) (by kernel_rfl) (by kernel_rfl) (fun _ _ _ h => h) (Or.inl ⟨by rfl, ?_⟩) (by trivial) ?_
          rotate_left
          (focus (intro w9 hSw; obtain ⟨lt, c0, c1, c2, c3⟩ := hSw.cells; go_simp <;> with_reducible rfl))
          try simp only [Act.put, List.setIfInBounds_toArray, List.set_cons_zero, List.set_cons_succ]
          refine wpAnyH_take (i := 18) (oi := { dst := some 59, op := Op.binOp BinOp.sub 3 (Operand.tmp 57) (Operand.tmp 58) 3, type := 3, pos := "law.go:115", after := #[{ on := 16, ground := Ground.data }, { on := 17, ground := Ground.data }, { on := 12, ground := Ground.guard }], guard := some (12, true) }) (v := ?_) rfl (by kernel_rfl) (by kernel_rfl) (by kernel_rfl) (fun _ _ _ h => h) (Or.inl ⟨by rfl, ?_⟩) (by trivial) ?_
          rotate_left
          (focus (intro w9 hSw; obtain ⟨lt, c0, c1, c2, c3⟩ := hSw.cells; go_simp <;> with_reducible rfl))
          try simp only [Act.put, List.setIfInBounds_toArray, List.set_cons_zero, List.set_cons_succ]
          refine wpAnyH_ready (rs := [15]) (by kernel_rfl) (by simp) ?_
          refine AllReadyH.cons (o := { dst := some 56, op := Op.call { callee := Callee.value (Operand.func 26), args := #[Operand.tmp 54, Operand.tmp 55], argTypes := #[25, 3] }, type := 3, pos := "law.go:115", after := #[{ on := 13, ground := Ground.data }, { on := 14, ground := Ground.data }, { on := 12, ground := Ground.chain }, { on := 12, ground := Ground.guard }], guard := some (12, true) }) rfl (fun K hK => ?_) AllReadyH.nil
          go_simp
          refine (utc_any (L := []) (Y := []) s.z s.le).mono ?_
          rintro e wz ⟨v, rfl, bb, hv⟩
          replace s := s.step bb
          clear bb lt c0 c1 c2 c3
          obtain ⟨lt, c0, c1, c2, c3⟩ := s.cells
          obtain rfl := plain_utc hv ⟨by omega, by omega⟩ hM
          clear hv
          go_wp2_with fail
          refine hK.out _ _ s (fun _ => ?_)
          clear hK K
          try simp only [Act.put, List.setIfInBounds_toArray, List.set_cons_zero, List.set_cons_succ]
          refine wpAnyH_take (i := 19) (oi := { dst := some 60, op := Op.binOp BinOp.eql 3 (Operand.tmp 56) (Operand.tmp 59) 3, type := 4, pos := "law.go:115", after := #[{ on := 15, ground := Ground.data }, { on := 18, ground := Ground.data }, { on := 12, ground := Ground.guard }], guard := some (12, true) }) (v := ?_) rfl (by kernel_rfl) (by kernel_rfl) (by kernel_rfl) (fun _ _ _ h => h) (Or.inl ⟨by rfl, ?_⟩) (by trivial) ?_
          rotate_left
          (focus (intro w9 hSw; obtain ⟨lt, c0, c1, c2, c3⟩ := hSw.cells; go_simp <;> with_reducible rfl))
          try simp only [Act.put, List.setIfInBounds_toArray, List.set_cons_zero, List.set_cons_succ]
          refine wpAnyH_take (i := 20) (oi := { dst := some 61, op := Op.pick (Operand.tmp 53) (Operand.tmp 60) (Operand.const (Value.bool false)), type := 4, pos := "law.go:115", after := #[{ on := 12, ground := Ground.data }, { on := 19, ground := Ground.data }], guard := none }) (v := ?_) rfl (by kernel_rfl) (by kernel_rfl) (by kernel_rfl) (fun _ _ _ h => h) (Or.inl ⟨by rfl, ?_⟩) (by trivial) ?_
          rotate_left
          (focus (intro w9 hSw; obtain ⟨lt, c0, c1, c2, c3⟩ := hSw.cells; go_simp <;> with_reducible rfl))
          try simp only [Act.put, List.setIfInBounds_toArray, List.set_cons_zero, List.set_cons_succ]
          refine wpAnyH_take (i := 21) (oi := { dst := some 62, op := Op.move (Operand.tmp 61), type := 4, pos := "law.go:115", after := #[{ on := 20, ground := Ground.data }, { on := 15, ground := Ground.chain }], guard := none }) (v := ?_) rfl (by kernel_rfl) (by kernel_rfl) (by kernel_rfl) (fun _ _ _ h => h) (Or.inl ⟨by rfl, ?_⟩) (by trivial) ?_
          rotate_left
          (focus (intro w9 hSw; obtain ⟨lt, c0, c1, c2, c3⟩ := hSw.cells; go_simp <;> with_reducible rfl))
          try simp only [Act.put, List.setIfInBounds_toArray, List.set_cons_zero, List.set_cons_succ]
          refine wpAnyH_take (i := 22) (oi := { dst := some 63, op := Op.load 25 (Operand.tmp 5), type := 25, pos := "law.go:115", after := #[{ on := 21, ground := Ground.guard }], guard := some (21, true) }) (v := ?_) rfl (by kernel_rfl) (by kernel_rfl) (by kernel_rfl) (fun _ _ _ h => h) (Or.inl ⟨by rfl, ?_⟩) (by trivial) ?_
          rotate_left
          (focus (intro w9 hSw; obtain ⟨lt, c0, c1, c2, c3⟩ := hSw.cells; go_simp <;> with_reducible rfl))
          try simp only [Act.put, List.setIfInBounds_toArray, List.set_cons_zero, List.set_cons_succ]
          refine wpAnyH_take (i := 23) (oi := { dst := some 64, op := Op.load 25 (Operand.tmp 5), type := 25, pos := "law.go:115", after := #[{ on := 21, ground := Ground.guard }], guard := some (21, true) }) (v := ?_) rfl (by kernel_rfl) (by kernel_rfl) (by kernel_rfl) (fun _ _ _ h => h) (Or.inl ⟨by rfl, ?_⟩) (by trivial) ?_
          rotate_left
          (focus (intro w9 hSw; obtain ⟨lt, c0, c1, c2, c3⟩ := hSw.cells; go_simp <;> with_reducible rfl))
          try simp only [Act.put, List.setIfInBounds_toArray, List.set_cons_zero, List.set_cons_succ]
          refine wpAnyH_take (i := 24) (oi := { dst := some 65, op := Op.move (Operand.tmp 1), type := 3, pos := "law.go:115", after := #[{ on := 21, ground := Ground.guard }], guard := some (21, true) }) (v := ?_) rfl (by kernel_rfl) (by kernel_rfl) (by kernel_rfl) (fun _ _ _ h => h) (Or.inl ⟨by rfl, ?_⟩) (by trivial) ?_
          rotate_left
          (focus (intro w9 hSw; obtain ⟨lt, c0, c1, c2, c3⟩ := hSw.cells; go_simp <;> with_reducible rfl))
          try simp only [Act.put, List.setIfInBounds_toArray, List.set_cons_zero, List.set_cons_succ]
          refine wpAnyH_take (i := 27) (oi := { dst := some 68, op := Op.move (Operand.tmp 1), type := 3, pos := "law.go:115", after := #[{ on := 21, ground := Ground.guard }], guard := some (21, true) }) (v := ?_) rfl (by kernel_rfl) (by kernel_rfl) (by kernel_rfl) (fun _ _ _ h => h) (Or.inl ⟨by rfl, ?_⟩) (by trivial) ?_
          rotate_left
          (focus (intro w9 hSw; obtain ⟨lt, c0, c1, c2, c3⟩ := hSw.cells; go_simp <;> with_reducible rfl))
          try simp only [Act.put, List.setIfInBounds_toArray, List.set_cons_zero, List.set_cons_succ]
          refine wpAnyH_ready (rs := [25]) (by kernel_rfl) (by simp) ?_
          refine AllReadyH.cons (o := { dst := some 66, op := Op.call { callee := Callee.value (Operand.func 22), args := #[Operand.tmp 64, Operand.tmp 65], argTypes := #[25, 3] }, type := 3, pos := "law.go:115", after := #[{ on := 23, ground := Ground.data }, { on := 24, ground := Ground.data }, { on := 21, ground := Ground.chain }, { on := 21, ground := Ground.guard }], guard := some (21, true) }) rfl (fun K hK => ?_) AllReadyH.nil
          go_simp
          refine (local_any (L := []) (Y := []) s.z s.le).mono ?_
          rintro e wz ⟨l, rfl, bb, hl, -⟩
          replace s := s.step bb
          clear bb lt c0 c1 c2 c3
          obtain ⟨lt, c0, c1, c2, c3⟩ := s.cells
          replace hl := plain_off (hl ⟨⟨by omega, by omega⟩, hM⟩)
          obtain rfl : l = u + bs := by omega
          clear hl
          go_wp2_with fail
          refine hK.out _ _ s (fun _ => ?_)
          clear hK K
          try simp only [Act.put, List.setIfInBounds_toArray, List.set_cons_zero, List.set_cons_succ]
          refine wpAnyH_ready (rs := [26]) (by kernel_rfl) (by simp) ?_
          refine AllReadyH.cons (o := { dst := some 67, op := Op.call { callee := Callee.value (Operand.func 26), args := #[Operand.tmp 63, Operand.tmp 66], argTypes := #[25, 3] }, type := 3, pos := "law.go:115", after := #[{ on := 22, ground := Ground.data }, { on := 25, ground := Ground.data }, { on := 25, ground := Ground.chain }, { on := 21, ground := Ground.guard }], guard := some (21, true) }) rfl (fun K hK => ?_) AllReadyH.nil
          go_simp
          refine (utc_any (L := []) (Y := []) s.z s.le).mono ?_
          rintro e wz ⟨v, rfl, bb, hv⟩
          replace s := s.step bb
          clear bb lt c0 c1 c2 c3
          obtain ⟨lt, c0, c1, c2, c3⟩ := s.cells
          replace hv := plain_utc hv ⟨by omega, by omega⟩ hM
          obtain rfl : v = u := by omega
          clear hv
          go_wp2_with fail
          refine hK.out _ _ s (fun _ => ?_)
          clear hK K
          try simp only [Act.put, List.setIfInBounds_toArray, List.set_cons_zero, List.set_cons_succ]
          refine wpAnyH_take (i := 28) (oi := { dst := some 69, op := Op.binOp BinOp.eql 3 (Operand.tmp 67) (Operand.tmp 68) 3, type := 4, pos := "law.go:115", after := #[{ on := 26, ground := Ground.data }, { on := 27, ground := Ground.data }, { on := 21, ground := Ground.guard }], guard := some (21, true) }) (v := ?_) rfl (by kernel_rfl) (by kernel_rfl) (by kernel_rfl) (fun _ _ _ h => h) (Or.inl ⟨by rfl, ?_⟩) (by trivial) ?_
          rotate_left
          (focus (intro w9 hSw; obtain ⟨lt, c0, c1, c2, c3⟩ := hSw.cells; go_simp <;> with_reducible rfl))
          try simp only [Act.put, List.setIfInBounds_toArray, List.set_cons_zero, List.set_cons_succ]
          refine wpAnyH_take (i := 29) (oi := { dst := some 70, op := Op.pick (Operand.tmp 62) (Operand.tmp 69) (Operand.const (Value.bool false)), type := 4, pos := "law.go:115", after := #[{ on := 21, ground := Ground.data }, { on := 28, ground := Ground.data }], guard := none }) (v := ?_) rfl (by kernel_rfl) (by kernel_rfl) (by kernel_rfl) (fun _ _ _ h => h) (Or.inl ⟨by rfl, ?_⟩) (by trivial) ?_
          rotate_left
          (focus (intro w9 hSw; obtain ⟨lt, c0, c1, c2, c3⟩ := hSw.cells; go_simp <;> with_reducible rfl))
          try simp only [Act.put, List.setIfInBounds_toArray, List.set_cons_zero, List.set_cons_succ]
          refine wpAnyH_take (i := 30) (oi := { dst := some 4, op := Op.assign (Operand.tmp 70), type := 4, pos := "law.go:115", after := #[{ on := 29, ground := Ground.data }, { on := 26, ground := Ground.chain }, { on := 0, ground := Ground.phase }, { on := 1, ground := Ground.phase }, { on := 2, ground := Ground.phase }, { on := 3, ground := Ground.phase }, { on := 4, ground := Ground.phase }, { on := 5, ground := Ground.phase }, { on := 6, ground := Ground.phase }, { on := 7, ground := Ground.phase }, { on := 8, ground := Ground.phase }, { on := 9, ground := Ground.phase }, { on := 10, ground := Ground.phase }, { on := 11, ground := Ground.phase }, { on := 12, ground := Ground.phase }, { on := 13, ground := Ground.phase }, { on := 14, ground := Ground.phase }, { on := 15, ground := Ground.phase }, { on := 16, ground := Ground.phase }, { on := 17, ground := Ground.phase }, { on := 18, ground := Ground.phase }, { on := 19, ground := Ground.phase }, { on := 20, ground := Ground.phase }, { on := 21, ground := Ground.phase }, { on := 22, ground := Ground.phase }, { on := 23, ground := Ground.phase }, { on := 24, ground := Ground.phase }, { on := 25, ground := Ground.phase }, { on := 26, ground := Ground.phase }, { on := 27, ground := Ground.phase }, { on := 28, ground := Ground.phase }, { on := 29, ground := Ground.phase }], guard := none }) (v := ?_) rfl (by kernel_rfl) (by kernel_rfl) (by kernel_rfl) (fun _ _ _ h => h) (Or.inl ⟨by rfl, ?_⟩) (by trivial) ?_
          rotate_left
          (focus (intro w9 hSw; obtain ⟨lt, c0, c1, c2, c3⟩ := hSw.cells; go_simp <;> with_reducible rfl))
          try simp only [Act.put, List.setIfInBounds_toArray, List.set_cons_zero, List.set_cons_succ]
          refine wpAnyH_done (by kernel_rfl) ?_ _
          go_wp2_with fail
          go_ret
          exact ⟨rfl, s.b⟩
end Go.Proofs.Ytbnchbcdgffkaaa
