/- voklaw3.ZoneShifts. -/
import Derived.Test.YtbnchbcdgffkaaaSt
import Derived.Deep.RegionHeld3
import Derived.Deep.DrawnRows
namespace Go.Proofs.Ytbnchbcdgffkaaa
open Go.RowKit
set_option linter.unusedVariables false
theorem Two.both {w : World} {p : Nat} {a b : Int} (h : Two w p a b) : w.cell? ⟨p, 0, none⟩ = some (.int .i64 a) ∧ w.cell? ⟨p, 1, none⟩ = some (.int .i64 b) := ⟨h.c0, h.c1⟩
theorem Two.drew {w : World} {p : Nat} {a b : Int} (h : Two w p a b) : Two w.drew p a b := ⟨h.blk⟩
theorem MayZ.few {bs : Int} {L : List Sh} {Y : List Yr} {fr : Int} (h : MayZ bs L Y fr) : L.length ≤ 400 ∧ Y.length ≤ 400 := by
  refine ⟨Nat.le_trans h.sh.few (by decide), ?_⟩
  rcases h.yr with ⟨rfl, _⟩ | ⟨a, b, hF⟩
  · simp
  · rw [hF.eq]; simp
set_option maxRecDepth 100000 in
set_option maxHeartbeats 4000000 in
theorem zoneShifts_true {bs : Int} {A A' : Option Addr} {c c' : Nat} {fr : Int} {L : List Sh} {Y : List Yr} {u : Int} {w : World} (hz : ZAt w w.heap.size A A' L Y) :
    Calls Try.prog 7 #[zv bs A L.length c A' Y.length c' fr, .int .i64 u] w fun e w' => e = .returned (.bool true) ∧ Below w.heap.size w w' := by
  by_cases qf : L.length ≤ 400 ∧ Y.length ≤ 400
  · have ft := decide_eq_true qf
    by_cases qm : MayZ bs L Y fr
    · have mt := mayZB_yes qm
      by_cases qt : MayT u
      · have tt := decide_eq_true qt
        go_enter Try.func7, Try.ntmps7
        go_wp2_with fail
        have s : St w (w.alloc (zo bs A L.length c A' Y.length c' fr)) w.heap.size bs A c A' c' fr L Y := St.new_ hz
        generalize w.alloc (zo bs A L.length c A' Y.length c' fr) = w1 at s ⊢
        obtain ⟨lt, c0, c1, c2, c3⟩ := s.cells
        refine (first_any _).mono ?_
        rintro e wz ⟨rfl, bb⟩
        replace s := s.step bb
        clear bb lt c0 c1 c2 c3
        obtain ⟨lt, c0, c1, c2, c3⟩ := s.cells
        go_wp2_with fail
        refine (few_any).mono ?_
        rintro e wz ⟨rfl, bb⟩
        replace s := s.step bb
        clear bb lt c0 c1 c2 c3
        obtain ⟨lt, c0, c1, c2, c3⟩ := s.cells
        rw [ft]
        go_wp2_with fail
        refine (mayZone_any bs A c A' c' fr L Y w.heap.size _ s.z.s s.z.y s.le s.z.l s.z.l').mono ?_
        rintro e wz ⟨rfl, bb⟩
        replace s := s.step bb
        clear bb lt c0 c1 c2 c3
        obtain ⟨lt, c0, c1, c2, c3⟩ := s.cells
        rw [mt]
        go_wp2_with fail
        refine (may_any u _).mono ?_
        rintro e wz ⟨rfl, rfl⟩
        rw [tt]
        go_wp2_with fail
        have hS := qm.ok.sep
        have qm0 := Lib.hid qm
        have qt0 := Lib.hid qt
        have qb0 := Lib.hid qm.base
        refine (before_any s.z s.le).mono ?_
        rintro e wz ⟨r, rfl, bb, hr, -⟩
        replace s := s.step bb
        clear bb lt c0 c1 c2 c3
        obtain ⟨lt, c0, c1, c2, c3⟩ := s.cells
        replace hr := Lib.hid (hr ⟨qt, qm⟩)
        cases r with
        | none =>
          simp only [shv]
          go_wp2_with fail
          obtain ⟨pT, hpT⟩ : ∃ pT, pT = wz.heap.size := ⟨_, rfl⟩
          have T := Two.new_ wz (0) (0) wz.heap.size rfl
          replace s := s.alloc (.cells #[.int .i64 0, .int .i64 0] 29)
          rw [← hpT] at T ⊢
          clear hpT
          generalize wz.alloc (.cells #[.int .i64 0, .int .i64 0] 29) = wy at s T ⊢
          clear lt c0 c1 c2 c3
          obtain ⟨lt, c0, c1, c2, c3⟩ := s.cells
          obtain ⟨dT0, dT1⟩ := T.both
          refine (after_any s.z s.le).mono ?_
          rintro e wz ⟨q, rfl, bb, hq, -⟩
          replace T := T.below bb T.lt
          replace s := s.step bb
          clear bb dT0 dT1 lt c0 c1 c2 c3
          obtain ⟨lt, c0, c1, c2, c3⟩ := s.cells
          replace hq := Lib.hid (hq ⟨qt, qm⟩)
          obtain ⟨dT0, dT1⟩ := T.both
          cases q with
          | none =>
            simp only [shv]
            go_wp2_with fail
            clear dT0 dT1
            obtain ⟨pU, hpU⟩ : ∃ pU, pU = wz.heap.size := ⟨_, rfl⟩
            replace T := T.below ((Below.refl _ _).alloc (Nat.le_refl _) (.cells #[.int .i64 0, .int .i64 0] 29)) T.lt
            have U := Two.new_ wz (0) (0) wz.heap.size rfl
            replace s := s.alloc (.cells #[.int .i64 0, .int .i64 0] 29)
            rw [← hpU] at U ⊢
            clear hpU
            generalize wz.alloc (.cells #[.int .i64 0, .int .i64 0] 29) = wy at s U T ⊢
            clear lt c0 c1 c2 c3
            obtain ⟨lt, c0, c1, c2, c3⟩ := s.cells
            obtain ⟨dT0, dT1⟩ := T.both
            obtain ⟨dU0, dU1⟩ := U.both
            refine (zoffset_any s.z s.le).mono ?_
            rintro e wz ⟨o, rfl, bb, ho, -⟩
            replace T := T.below bb T.lt
            replace U := U.below bb U.lt
            replace s := s.step bb
            clear bb dT0 dT1 dU0 dU1 lt c0 c1 c2 c3
            obtain ⟨lt, c0, c1, c2, c3⟩ := s.cells
            replace ho := ((ho ⟨qt, qm⟩).uniq hS ⟨_, hr.out, rfl⟩).symm
            simp only [offOf] at ho
            subst ho
            obtain ⟨u1, u2⟩ := qt0.out
            obtain ⟨b1, b2⟩ := qb0.out
            obtain ⟨dT0, dT1⟩ := T.both
            obtain ⟨dU0, dU1⟩ := U.both
            go_wp2_with fail
            have zw3 : IntKind.i64.wrap (u + bs) = u + bs := wi64 (by omega) (by omega)
            replace s := s.drew
            replace T := T.drew
            replace U := U.drew
            clear dT0 dT1 dU0 dU1 lt c0 c1 c2 c3
            obtain ⟨lt, c0, c1, c2, c3⟩ := s.cells
            obtain ⟨dT0, dT1⟩ := T.both
            obtain ⟨dU0, dU1⟩ := U.both
            refine wp_region_held_drew (S := fun w9 => St w w9 w.heap.size bs A c A' c' fr L Y ∧ Two w9 pT (0) (0) ∧ Two w9 pU (0) (0)) (by kernel_rfl) ⟨s, T, U⟩ (fun _ => ?_)
            refine wpAnyH_take (i := 0) (oi := { dst := some 47, op := Op.move (Operand.tmp 6), type := 4, pos := "law.go:97", after := #[], guard := none }) (v := ?_) rfl (by kernel_rfl) (by kernel_rfl) (by kernel_rfl) (fun _ _ _ h => h) (Or.inl ⟨by rfl, ?_⟩) (by trivial) ?_
            rotate_left
            (focus (intro w9 hSw; obtain ⟨s9, T9, U9⟩ := hSw; obtain ⟨lt, c0, c1, c2, c3⟩ := s9.cells; obtain ⟨fT0, fT1⟩ := T9.both; obtain ⟨fU0, fU1⟩ := U9.both; go_simp <;> with_reducible rfl))
            try simp only [Act.put, List.setIfInBounds_toArray, List.set_cons_zero, List.set_cons_succ]
            refine wpAnyH_take (i := 1) (oi := { dst := some 48, op := Op.move (Operand.tmp 47), type := 4, pos := "law.go:97", after := #[{ on := 0, ground := Ground.data }], guard := none }) (v := ?_) rfl (by kernel_rfl) (by kernel_rfl) (by kernel_rfl) (fun _ _ _ h => h) (Or.inl ⟨by rfl, ?_⟩) (by trivial) ?_
            rotate_left
            (focus (intro w9 hSw; obtain ⟨s9, T9, U9⟩ := hSw; obtain ⟨lt, c0, c1, c2, c3⟩ := s9.cells; obtain ⟨fT0, fT1⟩ := T9.both; obtain ⟨fU0, fU1⟩ := U9.both; go_simp <;> with_reducible rfl))
            try simp only [Act.put, List.setIfInBounds_toArray, List.set_cons_zero, List.set_cons_succ]
            refine wpAnyH_take (i := 2) (oi := { dst := some 49, op := Op.fieldAddr 29 (Operand.tmp 5) 0, type := 0, pos := "law.go:97", after := #[{ on := 1, ground := Ground.guard }], guard := some (1, true) }) (v := undef) rfl (by kernel_rfl) (by kernel_rfl) (by kernel_rfl) (fun _ _ _ h => h) (Or.inr ⟨by rfl, rfl⟩) (by trivial) ?_
            try simp only [Act.put, List.setIfInBounds_toArray, List.set_cons_zero, List.set_cons_succ]
            refine wpAnyH_take (i := 3) (oi := { dst := some 50, op := Op.load 3 (Operand.tmp 49), type := 3, pos := "law.go:97", after := #[{ on := 2, ground := Ground.data }, { on := 1, ground := Ground.guard }], guard := some (1, true) }) (v := undef) rfl (by kernel_rfl) (by kernel_rfl) (by kernel_rfl) (fun _ _ _ h => h) (Or.inr ⟨by rfl, rfl⟩) (by trivial) ?_
            try simp only [Act.put, List.setIfInBounds_toArray, List.set_cons_zero, List.set_cons_succ]
            refine wpAnyH_take (i := 4) (oi := { dst := some 51, op := Op.move (Operand.tmp 1), type := 3, pos := "law.go:97", after := #[{ on := 1, ground := Ground.guard }], guard := some (1, true) }) (v := undef) rfl (by kernel_rfl) (by kernel_rfl) (by kernel_rfl) (fun _ _ _ h => h) (Or.inr ⟨by rfl, rfl⟩) (by trivial) ?_
            try simp only [Act.put, List.setIfInBounds_toArray, List.set_cons_zero, List.set_cons_succ]
            refine wpAnyH_take (i := 5) (oi := { dst := some 52, op := Op.binOp BinOp.gtr 3 (Operand.tmp 50) (Operand.tmp 51) 3, type := 4, pos := "law.go:97", after := #[{ on := 3, ground := Ground.data }, { on := 4, ground := Ground.data }, { on := 1, ground := Ground.guard }], guard := some (1, true) }) (v := undef) rfl (by kernel_rfl) (by kernel_rfl) (by kernel_rfl) (fun _ _ _ h => h) (Or.inr ⟨by rfl, rfl⟩) (by trivial) ?_
            try simp only [Act.put, List.setIfInBounds_toArray, List.set_cons_zero, List.set_cons_succ]
            refine wpAnyH_take (i := 6) (oi := { dst := some 53, op := Op.move (Operand.tmp 52), type := 4, pos := "law.go:97", after := #[{ on := 5, ground := Ground.data }, { on := 1, ground := Ground.chain }, { on := 1, ground := Ground.guard }], guard := some (1, true) }) (v := undef) rfl (by kernel_rfl) (by kernel_rfl) (by kernel_rfl) (fun _ _ _ h => h) (Or.inr ⟨by rfl, rfl⟩) (by trivial) ?_
            try simp only [Act.put, List.setIfInBounds_toArray, List.set_cons_zero, List.set_cons_succ]
            refine wpAnyH_take (i := 7) (oi := { dst := some 54, op := Op.fieldAddr 29 (Operand.tmp 5) 1, type := 0, pos := "law.go:97", after := #[{ on := 6, ground := Ground.guard }], guard := some (6, false) }) (v := undef) rfl (by kernel_rfl) (by kernel_rfl) (by kernel_rfl) (fun _ _ _ h => h) (Or.inr ⟨by rfl, rfl⟩) (by trivial) ?_
            try simp only [Act.put, List.setIfInBounds_toArray, List.set_cons_zero, List.set_cons_succ]
            refine wpAnyH_take (i := 8) (oi := { dst := some 55, op := Op.load 3 (Operand.tmp 54), type := 3, pos := "law.go:97", after := #[{ on := 7, ground := Ground.data }, { on := 6, ground := Ground.guard }], guard := some (6, false) }) (v := undef) rfl (by kernel_rfl) (by kernel_rfl) (by kernel_rfl) (fun _ _ _ h => h) (Or.inr ⟨by rfl, rfl⟩) (by trivial) ?_
            try simp only [Act.put, List.setIfInBounds_toArray, List.set_cons_zero, List.set_cons_succ]
            refine wpAnyH_take (i := 9) (oi := { dst := some 56, op := Op.move (Operand.tmp 9), type := 3, pos := "law.go:97", after := #[{ on := 6, ground := Ground.guard }], guard := some (6, false) }) (v := undef) rfl (by kernel_rfl) (by kernel_rfl) (by kernel_rfl) (fun _ _ _ h => h) (Or.inr ⟨by rfl, rfl⟩) (by trivial) ?_
            try simp only [Act.put, List.setIfInBounds_toArray, List.set_cons_zero, List.set_cons_succ]
            refine wpAnyH_take (i := 10) (oi := { dst := some 57, op := Op.binOp BinOp.neq 3 (Operand.tmp 55) (Operand.tmp 56) 3, type := 4, pos := "law.go:97", after := #[{ on := 8, ground := Ground.data }, { on := 9, ground := Ground.data }, { on := 6, ground := Ground.guard }], guard := some (6, false) }) (v := undef) rfl (by kernel_rfl) (by kernel_rfl) (by kernel_rfl) (fun _ _ _ h => h) (Or.inr ⟨by rfl, rfl⟩) (by trivial) ?_
            try simp only [Act.put, List.setIfInBounds_toArray, List.set_cons_zero, List.set_cons_succ]
            refine wpAnyH_take (i := 11) (oi := { dst := some 58, op := Op.pick (Operand.tmp 53) (Operand.const (Value.bool true)) (Operand.tmp 57), type := 4, pos := "law.go:97", after := #[{ on := 6, ground := Ground.data }, { on := 10, ground := Ground.data }, { on := 1, ground := Ground.guard }], guard := some (1, true) }) (v := undef) rfl (by kernel_rfl) (by kernel_rfl) (by kernel_rfl) (fun _ _ _ h => h) (Or.inr ⟨by rfl, rfl⟩) (by trivial) ?_
            try simp only [Act.put, List.setIfInBounds_toArray, List.set_cons_zero, List.set_cons_succ]
            refine wpAnyH_take (i := 12) (oi := { dst := some 59, op := Op.move (Operand.tmp 58), type := 4, pos := "law.go:97", after := #[{ on := 11, ground := Ground.data }, { on := 6, ground := Ground.chain }, { on := 1, ground := Ground.guard }], guard := some (1, true) }) (v := undef) rfl (by kernel_rfl) (by kernel_rfl) (by kernel_rfl) (fun _ _ _ h => h) (Or.inr ⟨by rfl, rfl⟩) (by trivial) ?_
            try simp only [Act.put, List.setIfInBounds_toArray, List.set_cons_zero, List.set_cons_succ]
            refine wpAnyH_take (i := 13) (oi := { dst := some 60, op := Op.load 25 (Operand.tmp 2), type := 25, pos := "law.go:97", after := #[{ on := 12, ground := Ground.guard }], guard := some (12, false) }) (v := undef) rfl (by kernel_rfl) (by kernel_rfl) (by kernel_rfl) (fun _ _ _ h => h) (Or.inr ⟨by rfl, rfl⟩) (by trivial) ?_
            try simp only [Act.put, List.setIfInBounds_toArray, List.set_cons_zero, List.set_cons_succ]
            refine wpAnyH_take (i := 14) (oi := { dst := some 61, op := Op.fieldAddr 29 (Operand.tmp 5) 0, type := 0, pos := "law.go:97", after := #[{ on := 12, ground := Ground.guard }], guard := some (12, false) }) (v := undef) rfl (by kernel_rfl) (by kernel_rfl) (by kernel_rfl) (fun _ _ _ h => h) (Or.inr ⟨by rfl, rfl⟩) (by trivial) ?_
            try simp only [Act.put, List.setIfInBounds_toArray, List.set_cons_zero, List.set_cons_succ]
            refine wpAnyH_take (i := 15) (oi := { dst := some 62, op := Op.load 3 (Operand.tmp 61), type := 3, pos := "law.go:97", after := #[{ on := 14, ground := Ground.data }, { on := 12, ground := Ground.guard }], guard := some (12, false) }) (v := undef) rfl (by kernel_rfl) (by kernel_rfl) (by kernel_rfl) (fun _ _ _ h => h) (Or.inr ⟨by rfl, rfl⟩) (by trivial) ?_
            try simp only [Act.put, List.setIfInBounds_toArray, List.set_cons_zero, List.set_cons_succ]
            refine wpAnyH_take (i := 16) (oi := { dst := some 63, op := Op.call { callee := Callee.value (Operand.func 20), args := #[Operand.tmp 60, Operand.tmp 62], argTypes := #[25, 3] }, type := 3, pos := "law.go:97", after := #[{ on := 13, ground := Ground.data }, { on := 15, ground := Ground.data }, { on := 12, ground := Ground.chain }, { on := 12, ground := Ground.guard }], guard := some (12, false) }) (v := undef) rfl (by kernel_rfl) (by kernel_rfl) (by kernel_rfl) (fun _ _ _ h => h) (Or.inr ⟨by rfl, rfl⟩) (by trivial) ?_
            try simp only [Act.put, List.setIfInBounds_toArray, List.set_cons_zero, List.set_cons_succ]
            refine wpAnyH_take (i := 17) (oi := { dst := some 64, op := Op.move (Operand.tmp 9), type := 3, pos := "law.go:97", after := #[{ on := 12, ground := Ground.guard }], guard := some (12, false) }) (v := undef) rfl (by kernel_rfl) (by kernel_rfl) (by kernel_rfl) (fun _ _ _ h => h) (Or.inr ⟨by rfl, rfl⟩) (by trivial) ?_
            try simp only [Act.put, List.setIfInBounds_toArray, List.set_cons_zero, List.set_cons_succ]
            refine wpAnyH_take (i := 18) (oi := { dst := some 65, op := Op.binOp BinOp.neq 3 (Operand.tmp 63) (Operand.tmp 64) 3, type := 4, pos := "law.go:97", after := #[{ on := 16, ground := Ground.data }, { on := 17, ground := Ground.data }, { on := 12, ground := Ground.guard }], guard := some (12, false) }) (v := undef) rfl (by kernel_rfl) (by kernel_rfl) (by kernel_rfl) (fun _ _ _ h => h) (Or.inr ⟨by rfl, rfl⟩) (by trivial) ?_
            try simp only [Act.put, List.setIfInBounds_toArray, List.set_cons_zero, List.set_cons_succ]
            refine wpAnyH_take (i := 19) (oi := { dst := some 66, op := Op.pick (Operand.tmp 59) (Operand.const (Value.bool true)) (Operand.tmp 65), type := 4, pos := "law.go:97", after := #[{ on := 12, ground := Ground.data }, { on := 18, ground := Ground.data }, { on := 1, ground := Ground.guard }], guard := some (1, true) }) (v := undef) rfl (by kernel_rfl) (by kernel_rfl) (by kernel_rfl) (fun _ _ _ h => h) (Or.inr ⟨by rfl, rfl⟩) (by trivial) ?_
            try simp only [Act.put, List.setIfInBounds_toArray, List.set_cons_zero, List.set_cons_succ]
            refine wpAnyH_take (i := 20) (oi := { dst := some 67, op := Op.pick (Operand.tmp 48) (Operand.tmp 66) (Operand.const (Value.bool false)), type := 4, pos := "law.go:97", after := #[{ on := 1, ground := Ground.data }, { on := 19, ground := Ground.data }], guard := none }) (v := ?_) rfl (by kernel_rfl) (by kernel_rfl) (by kernel_rfl) (fun _ _ _ h => h) (Or.inl ⟨by rfl, ?_⟩) (by trivial) ?_
            rotate_left
            (focus (intro w9 hSw; obtain ⟨s9, T9, U9⟩ := hSw; obtain ⟨lt, c0, c1, c2, c3⟩ := s9.cells; obtain ⟨fT0, fT1⟩ := T9.both; obtain ⟨fU0, fU1⟩ := U9.both; go_simp <;> with_reducible rfl))
            try simp only [Act.put, List.setIfInBounds_toArray, List.set_cons_zero, List.set_cons_succ]
            refine wpAnyH_take (i := 21) (oi := { dst := some 68, op := Op.move (Operand.tmp 67), type := 4, pos := "law.go:97", after := #[{ on := 20, ground := Ground.data }, { on := 16, ground := Ground.chain }], guard := none }) (v := ?_) rfl (by kernel_rfl) (by kernel_rfl) (by kernel_rfl) (fun _ _ _ h => h) (Or.inl ⟨by rfl, ?_⟩) (by trivial) ?_
            rotate_left
            (focus (intro w9 hSw; obtain ⟨s9, T9, U9⟩ := hSw; obtain ⟨lt, c0, c1, c2, c3⟩ := s9.cells; obtain ⟨fT0, fT1⟩ := T9.both; obtain ⟨fU0, fU1⟩ := U9.both; go_simp <;> with_reducible rfl))
            try simp only [Act.put, List.setIfInBounds_toArray, List.set_cons_zero, List.set_cons_succ]
            refine wpAnyH_take (i := 22) (oi := { dst := some 69, op := Op.move (Operand.tmp 6), type := 4, pos := "law.go:97", after := #[{ on := 21, ground := Ground.guard }], guard := some (21, false) }) (v := ?_) rfl (by kernel_rfl) (by kernel_rfl) (by kernel_rfl) (fun _ _ _ h => h) (Or.inl ⟨by rfl, ?_⟩) (by trivial) ?_
            rotate_left
            (focus (intro w9 hSw; obtain ⟨s9, T9, U9⟩ := hSw; obtain ⟨lt, c0, c1, c2, c3⟩ := s9.cells; obtain ⟨fT0, fT1⟩ := T9.both; obtain ⟨fU0, fU1⟩ := U9.both; go_simp <;> with_reducible rfl))
            try simp only [Act.put, List.setIfInBounds_toArray, List.set_cons_zero, List.set_cons_succ]
            refine wpAnyH_take (i := 23) (oi := { dst := some 70, op := Op.unOp UnOp.not 4 (Operand.tmp 69), type := 4, pos := "law.go:97", after := #[{ on := 22, ground := Ground.data }, { on := 21, ground := Ground.guard }], guard := some (21, false) }) (v := ?_) rfl (by kernel_rfl) (by kernel_rfl) (by kernel_rfl) (fun _ _ _ h => h) (Or.inl ⟨by rfl, ?_⟩) (by trivial) ?_
            rotate_left
            (focus (intro w9 hSw; obtain ⟨s9, T9, U9⟩ := hSw; obtain ⟨lt, c0, c1, c2, c3⟩ := s9.cells; obtain ⟨fT0, fT1⟩ := T9.both; obtain ⟨fU0, fU1⟩ := U9.both; go_simp <;> with_reducible rfl))
            try simp only [Act.put, List.setIfInBounds_toArray, List.set_cons_zero, List.set_cons_succ]
            refine wpAnyH_take (i := 24) (oi := { dst := some 71, op := Op.move (Operand.tmp 70), type := 4, pos := "law.go:97", after := #[{ on := 23, ground := Ground.data }, { on := 21, ground := Ground.chain }, { on := 21, ground := Ground.guard }], guard := some (21, false) }) (v := ?_) rfl (by kernel_rfl) (by kernel_rfl) (by kernel_rfl) (fun _ _ _ h => h) (Or.inl ⟨by rfl, ?_⟩) (by trivial) ?_
            rotate_left
            (focus (intro w9 hSw; obtain ⟨s9, T9, U9⟩ := hSw; obtain ⟨lt, c0, c1, c2, c3⟩ := s9.cells; obtain ⟨fT0, fT1⟩ := T9.both; obtain ⟨fU0, fU1⟩ := U9.both; go_simp <;> with_reducible rfl))
            try simp only [Act.put, List.setIfInBounds_toArray, List.set_cons_zero, List.set_cons_succ]
            refine wpAnyH_take (i := 25) (oi := { dst := some 72, op := Op.move (Operand.tmp 9), type := 3, pos := "law.go:97", after := #[{ on := 24, ground := Ground.guard }], guard := some (24, true) }) (v := ?_) rfl (by kernel_rfl) (by kernel_rfl) (by kernel_rfl) (fun _ _ _ h => h) (Or.inl ⟨by rfl, ?_⟩) (by trivial) ?_
            rotate_left
            (focus (intro w9 hSw; obtain ⟨s9, T9, U9⟩ := hSw; obtain ⟨lt, c0, c1, c2, c3⟩ := s9.cells; obtain ⟨fT0, fT1⟩ := T9.both; obtain ⟨fU0, fU1⟩ := U9.both; go_simp <;> with_reducible rfl))
            try simp only [Act.put, List.setIfInBounds_toArray, List.set_cons_zero, List.set_cons_succ]
            refine wpAnyH_take (i := 26) (oi := { dst := some 73, op := Op.fieldAddr 25 (Operand.tmp 2) 0, type := 0, pos := "law.go:97", after := #[{ on := 24, ground := Ground.guard }], guard := some (24, true) }) (v := ?_) rfl (by kernel_rfl) (by kernel_rfl) (by kernel_rfl) (fun _ _ _ h => h) (Or.inl ⟨by rfl, ?_⟩) (by trivial) ?_
            rotate_left
            (focus (intro w9 hSw; obtain ⟨s9, T9, U9⟩ := hSw; obtain ⟨lt, c0, c1, c2, c3⟩ := s9.cells; obtain ⟨fT0, fT1⟩ := T9.both; obtain ⟨fU0, fU1⟩ := U9.both; go_simp <;> with_reducible rfl))
            try simp only [Act.put, List.setIfInBounds_toArray, List.set_cons_zero, List.set_cons_succ]
            refine wpAnyH_take (i := 27) (oi := { dst := some 74, op := Op.load 3 (Operand.tmp 73), type := 3, pos := "law.go:97", after := #[{ on := 26, ground := Ground.data }, { on := 24, ground := Ground.guard }], guard := some (24, true) }) (v := ?_) rfl (by kernel_rfl) (by kernel_rfl) (by kernel_rfl) (fun _ _ _ h => h) (Or.inl ⟨by rfl, ?_⟩) (by trivial) ?_
            rotate_left
            (focus (intro w9 hSw; obtain ⟨s9, T9, U9⟩ := hSw; obtain ⟨lt, c0, c1, c2, c3⟩ := s9.cells; obtain ⟨fT0, fT1⟩ := T9.both; obtain ⟨fU0, fU1⟩ := U9.both; go_simp <;> with_reducible rfl))
            try simp only [Act.put, List.setIfInBounds_toArray, List.set_cons_zero, List.set_cons_succ]
            refine wpAnyH_take (i := 28) (oi := { dst := some 75, op := Op.binOp BinOp.neq 3 (Operand.tmp 72) (Operand.tmp 74) 3, type := 4, pos := "law.go:97", after := #[{ on := 25, ground := Ground.data }, { on := 27, ground := Ground.data }, { on := 24, ground := Ground.guard }], guard := some (24, true) }) (v := ?_) rfl (by kernel_rfl) (by kernel_rfl) (by kernel_rfl) (fun _ _ _ h => h) (Or.inl ⟨by rfl, ?_⟩) (by trivial) ?_
            rotate_left
            (focus (intro w9 hSw; obtain ⟨s9, T9, U9⟩ := hSw; obtain ⟨lt, c0, c1, c2, c3⟩ := s9.cells; obtain ⟨fT0, fT1⟩ := T9.both; obtain ⟨fU0, fU1⟩ := U9.both; go_simp <;> with_reducible rfl))
            try simp only [Act.put, List.setIfInBounds_toArray, List.set_cons_zero, List.set_cons_succ]
            refine wpAnyH_take (i := 29) (oi := { dst := some 76, op := Op.pick (Operand.tmp 71) (Operand.tmp 75) (Operand.const (Value.bool false)), type := 4, pos := "law.go:97", after := #[{ on := 24, ground := Ground.data }, { on := 28, ground := Ground.data }, { on := 21, ground := Ground.guard }], guard := some (21, false) }) (v := ?_) rfl (by kernel_rfl) (by kernel_rfl) (by kernel_rfl) (fun _ _ _ h => h) (Or.inl ⟨by rfl, ?_⟩) (by trivial) ?_
            rotate_left
            (focus (intro w9 hSw; obtain ⟨s9, T9, U9⟩ := hSw; obtain ⟨lt, c0, c1, c2, c3⟩ := s9.cells; obtain ⟨fT0, fT1⟩ := T9.both; obtain ⟨fU0, fU1⟩ := U9.both; go_simp <;> with_reducible rfl))
            try simp only [Act.put, List.setIfInBounds_toArray, List.set_cons_zero, List.set_cons_succ]
            refine wpAnyH_take (i := 30) (oi := { dst := some 77, op := Op.pick (Operand.tmp 68) (Operand.const (Value.bool true)) (Operand.tmp 76), type := 4, pos := "law.go:97", after := #[{ on := 21, ground := Ground.data }, { on := 29, ground := Ground.data }], guard := none }) (v := ?_) rfl (by kernel_rfl) (by kernel_rfl) (by kernel_rfl) (fun _ _ _ h => h) (Or.inl ⟨by rfl, ?_⟩) (by trivial) ?_
            rotate_left
            (focus (intro w9 hSw; obtain ⟨s9, T9, U9⟩ := hSw; obtain ⟨lt, c0, c1, c2, c3⟩ := s9.cells; obtain ⟨fT0, fT1⟩ := T9.both; obtain ⟨fU0, fU1⟩ := U9.both; go_simp <;> with_reducible rfl))
            try simp only [Act.put, List.setIfInBounds_toArray, List.set_cons_zero, List.set_cons_succ]
            refine wpAnyH_take (i := 31) (oi := { dst := some 78, op := Op.move (Operand.tmp 77), type := 4, pos := "law.go:97", after := #[{ on := 30, ground := Ground.data }, { on := 24, ground := Ground.chain }], guard := none }) (v := ?_) rfl (by kernel_rfl) (by kernel_rfl) (by kernel_rfl) (fun _ _ _ h => h) (Or.inl ⟨by rfl, ?_⟩) (by trivial) ?_
            rotate_left
            (focus (intro w9 hSw; obtain ⟨s9, T9, U9⟩ := hSw; obtain ⟨lt, c0, c1, c2, c3⟩ := s9.cells; obtain ⟨fT0, fT1⟩ := T9.both; obtain ⟨fU0, fU1⟩ := U9.both; go_simp <;> with_reducible rfl))
            try simp only [Act.put, List.setIfInBounds_toArray, List.set_cons_zero, List.set_cons_succ]
            refine wpAnyH_take (i := 32) (oi := { dst := some 79, op := Op.move (Operand.tmp 8), type := 4, pos := "law.go:97", after := #[{ on := 31, ground := Ground.guard }], guard := some (31, false) }) (v := ?_) rfl (by kernel_rfl) (by kernel_rfl) (by kernel_rfl) (fun _ _ _ h => h) (Or.inl ⟨by rfl, ?_⟩) (by trivial) ?_
            rotate_left
            (focus (intro w9 hSw; obtain ⟨s9, T9, U9⟩ := hSw; obtain ⟨lt, c0, c1, c2, c3⟩ := s9.cells; obtain ⟨fT0, fT1⟩ := T9.both; obtain ⟨fU0, fU1⟩ := U9.both; go_simp <;> with_reducible rfl))
            try simp only [Act.put, List.setIfInBounds_toArray, List.set_cons_zero, List.set_cons_succ]
            refine wpAnyH_take (i := 33) (oi := { dst := some 80, op := Op.move (Operand.tmp 79), type := 4, pos := "law.go:97", after := #[{ on := 32, ground := Ground.data }, { on := 31, ground := Ground.chain }, { on := 31, ground := Ground.guard }], guard := some (31, false) }) (v := ?_) rfl (by kernel_rfl) (by kernel_rfl) (by kernel_rfl) (fun _ _ _ h => h) (Or.inl ⟨by rfl, ?_⟩) (by trivial) ?_
            rotate_left
            (focus (intro w9 hSw; obtain ⟨s9, T9, U9⟩ := hSw; obtain ⟨lt, c0, c1, c2, c3⟩ := s9.cells; obtain ⟨fT0, fT1⟩ := T9.both; obtain ⟨fU0, fU1⟩ := U9.both; go_simp <;> with_reducible rfl))
            try simp only [Act.put, List.setIfInBounds_toArray, List.set_cons_zero, List.set_cons_succ]
            refine wpAnyH_take (i := 34) (oi := { dst := some 81, op := Op.fieldAddr 29 (Operand.tmp 7) 0, type := 0, pos := "law.go:97", after := #[{ on := 33, ground := Ground.guard }], guard := some (33, true) }) (v := undef) rfl (by kernel_rfl) (by kernel_rfl) (by kernel_rfl) (fun _ _ _ h => h) (Or.inr ⟨by rfl, rfl⟩) (by trivial) ?_
            try simp only [Act.put, List.setIfInBounds_toArray, List.set_cons_zero, List.set_cons_succ]
            refine wpAnyH_take (i := 35) (oi := { dst := some 82, op := Op.load 3 (Operand.tmp 81), type := 3, pos := "law.go:97", after := #[{ on := 34, ground := Ground.data }, { on := 33, ground := Ground.guard }], guard := some (33, true) }) (v := undef) rfl (by kernel_rfl) (by kernel_rfl) (by kernel_rfl) (fun _ _ _ h => h) (Or.inr ⟨by rfl, rfl⟩) (by trivial) ?_
            try simp only [Act.put, List.setIfInBounds_toArray, List.set_cons_zero, List.set_cons_succ]
            refine wpAnyH_take (i := 36) (oi := { dst := some 83, op := Op.move (Operand.tmp 1), type := 3, pos := "law.go:97", after := #[{ on := 33, ground := Ground.guard }], guard := some (33, true) }) (v := undef) rfl (by kernel_rfl) (by kernel_rfl) (by kernel_rfl) (fun _ _ _ h => h) (Or.inr ⟨by rfl, rfl⟩) (by trivial) ?_
            try simp only [Act.put, List.setIfInBounds_toArray, List.set_cons_zero, List.set_cons_succ]
            refine wpAnyH_take (i := 37) (oi := { dst := some 84, op := Op.binOp BinOp.leq 3 (Operand.tmp 82) (Operand.tmp 83) 3, type := 4, pos := "law.go:97", after := #[{ on := 35, ground := Ground.data }, { on := 36, ground := Ground.data }, { on := 33, ground := Ground.guard }], guard := some (33, true) }) (v := undef) rfl (by kernel_rfl) (by kernel_rfl) (by kernel_rfl) (fun _ _ _ h => h) (Or.inr ⟨by rfl, rfl⟩) (by trivial) ?_
            try simp only [Act.put, List.setIfInBounds_toArray, List.set_cons_zero, List.set_cons_succ]
            refine wpAnyH_take (i := 38) (oi := { dst := some 85, op := Op.move (Operand.tmp 84), type := 4, pos := "law.go:97", after := #[{ on := 37, ground := Ground.data }, { on := 33, ground := Ground.chain }, { on := 33, ground := Ground.guard }], guard := some (33, true) }) (v := undef) rfl (by kernel_rfl) (by kernel_rfl) (by kernel_rfl) (fun _ _ _ h => h) (Or.inr ⟨by rfl, rfl⟩) (by trivial) ?_
            try simp only [Act.put, List.setIfInBounds_toArray, List.set_cons_zero, List.set_cons_succ]
            refine wpAnyH_take (i := 39) (oi := { dst := some 86, op := Op.load 25 (Operand.tmp 2), type := 25, pos := "law.go:97", after := #[{ on := 38, ground := Ground.guard }], guard := some (38, false) }) (v := undef) rfl (by kernel_rfl) (by kernel_rfl) (by kernel_rfl) (fun _ _ _ h => h) (Or.inr ⟨by rfl, rfl⟩) (by trivial) ?_
            try simp only [Act.put, List.setIfInBounds_toArray, List.set_cons_zero, List.set_cons_succ]
            refine wpAnyH_take (i := 40) (oi := { dst := some 87, op := Op.fieldAddr 29 (Operand.tmp 7) 0, type := 0, pos := "law.go:97", after := #[{ on := 38, ground := Ground.guard }], guard := some (38, false) }) (v := undef) rfl (by kernel_rfl) (by kernel_rfl) (by kernel_rfl) (fun _ _ _ h => h) (Or.inr ⟨by rfl, rfl⟩) (by trivial) ?_
            try simp only [Act.put, List.setIfInBounds_toArray, List.set_cons_zero, List.set_cons_succ]
            refine wpAnyH_take (i := 41) (oi := { dst := some 88, op := Op.load 3 (Operand.tmp 87), type := 3, pos := "law.go:97", after := #[{ on := 40, ground := Ground.data }, { on := 38, ground := Ground.guard }], guard := some (38, false) }) (v := undef) rfl (by kernel_rfl) (by kernel_rfl) (by kernel_rfl) (fun _ _ _ h => h) (Or.inr ⟨by rfl, rfl⟩) (by trivial) ?_
            try simp only [Act.put, List.setIfInBounds_toArray, List.set_cons_zero, List.set_cons_succ]
            refine wpAnyH_take (i := 42) (oi := { dst := some 89, op := Op.call { callee := Callee.value (Operand.func 20), args := #[Operand.tmp 86, Operand.tmp 88], argTypes := #[25, 3] }, type := 3, pos := "law.go:97", after := #[{ on := 39, ground := Ground.data }, { on := 41, ground := Ground.data }, { on := 38, ground := Ground.chain }, { on := 38, ground := Ground.guard }], guard := some (38, false) }) (v := undef) rfl (by kernel_rfl) (by kernel_rfl) (by kernel_rfl) (fun _ _ _ h => h) (Or.inr ⟨by rfl, rfl⟩) (by trivial) ?_
            try simp only [Act.put, List.setIfInBounds_toArray, List.set_cons_zero, List.set_cons_succ]
            refine wpAnyH_take (i := 43) (oi := { dst := some 90, op := Op.fieldAddr 29 (Operand.tmp 7) 1, type := 0, pos := "law.go:97", after := #[{ on := 38, ground := Ground.guard }], guard := some (38, false) }) (v := undef) rfl (by kernel_rfl) (by kernel_rfl) (by kernel_rfl) (fun _ _ _ h => h) (Or.inr ⟨by rfl, rfl⟩) (by trivial) ?_
            try simp only [Act.put, List.setIfInBounds_toArray, List.set_cons_zero, List.set_cons_succ]
            refine wpAnyH_take (i := 44) (oi := { dst := some 91, op := Op.load 3 (Operand.tmp 90), type := 3, pos := "law.go:97", after := #[{ on := 43, ground := Ground.data }, { on := 38, ground := Ground.guard }], guard := some (38, false) }) (v := undef) rfl (by kernel_rfl) (by kernel_rfl) (by kernel_rfl) (fun _ _ _ h => h) (Or.inr ⟨by rfl, rfl⟩) (by trivial) ?_
            try simp only [Act.put, List.setIfInBounds_toArray, List.set_cons_zero, List.set_cons_succ]
            refine wpAnyH_take (i := 45) (oi := { dst := some 92, op := Op.binOp BinOp.neq 3 (Operand.tmp 89) (Operand.tmp 91) 3, type := 4, pos := "law.go:97", after := #[{ on := 42, ground := Ground.data }, { on := 44, ground := Ground.data }, { on := 38, ground := Ground.guard }], guard := some (38, false) }) (v := undef) rfl (by kernel_rfl) (by kernel_rfl) (by kernel_rfl) (fun _ _ _ h => h) (Or.inr ⟨by rfl, rfl⟩) (by trivial) ?_
            try simp only [Act.put, List.setIfInBounds_toArray, List.set_cons_zero, List.set_cons_succ]
            refine wpAnyH_take (i := 46) (oi := { dst := some 93, op := Op.pick (Operand.tmp 85) (Operand.const (Value.bool true)) (Operand.tmp 92), type := 4, pos := "law.go:97", after := #[{ on := 38, ground := Ground.data }, { on := 45, ground := Ground.data }, { on := 33, ground := Ground.guard }], guard := some (33, true) }) (v := undef) rfl (by kernel_rfl) (by kernel_rfl) (by kernel_rfl) (fun _ _ _ h => h) (Or.inr ⟨by rfl, rfl⟩) (by trivial) ?_
            try simp only [Act.put, List.setIfInBounds_toArray, List.set_cons_zero, List.set_cons_succ]
            refine wpAnyH_take (i := 47) (oi := { dst := some 94, op := Op.move (Operand.tmp 93), type := 4, pos := "law.go:97", after := #[{ on := 46, ground := Ground.data }, { on := 42, ground := Ground.chain }, { on := 33, ground := Ground.guard }], guard := some (33, true) }) (v := undef) rfl (by kernel_rfl) (by kernel_rfl) (by kernel_rfl) (fun _ _ _ h => h) (Or.inr ⟨by rfl, rfl⟩) (by trivial) ?_
            try simp only [Act.put, List.setIfInBounds_toArray, List.set_cons_zero, List.set_cons_succ]
            refine wpAnyH_take (i := 48) (oi := { dst := some 95, op := Op.load 25 (Operand.tmp 2), type := 25, pos := "law.go:97", after := #[{ on := 47, ground := Ground.guard }], guard := some (47, false) }) (v := undef) rfl (by kernel_rfl) (by kernel_rfl) (by kernel_rfl) (fun _ _ _ h => h) (Or.inr ⟨by rfl, rfl⟩) (by trivial) ?_
            try simp only [Act.put, List.setIfInBounds_toArray, List.set_cons_zero, List.set_cons_succ]
            refine wpAnyH_take (i := 49) (oi := { dst := some 96, op := Op.fieldAddr 29 (Operand.tmp 7) 0, type := 0, pos := "law.go:97", after := #[{ on := 47, ground := Ground.guard }], guard := some (47, false) }) (v := undef) rfl (by kernel_rfl) (by kernel_rfl) (by kernel_rfl) (fun _ _ _ h => h) (Or.inr ⟨by rfl, rfl⟩) (by trivial) ?_
            try simp only [Act.put, List.setIfInBounds_toArray, List.set_cons_zero, List.set_cons_succ]
            refine wpAnyH_take (i := 50) (oi := { dst := some 97, op := Op.load 3 (Operand.tmp 96), type := 3, pos := "law.go:97", after := #[{ on := 49, ground := Ground.data }, { on := 47, ground := Ground.guard }], guard := some (47, false) }) (v := undef) rfl (by kernel_rfl) (by kernel_rfl) (by kernel_rfl) (fun _ _ _ h => h) (Or.inr ⟨by rfl, rfl⟩) (by trivial) ?_
            try simp only [Act.put, List.setIfInBounds_toArray, List.set_cons_zero, List.set_cons_succ]
            refine wpAnyH_take (i := 51) (oi := { dst := some 98, op := Op.binOp BinOp.sub 3 (Operand.tmp 97) (Operand.const (Value.int IntKind.i64 1)) 3, type := 3, pos := "law.go:97", after := #[{ on := 50, ground := Ground.data }, { on := 47, ground := Ground.guard }], guard := some (47, false) }) (v := undef) rfl (by kernel_rfl) (by kernel_rfl) (by kernel_rfl) (fun _ _ _ h => h) (Or.inr ⟨by rfl, rfl⟩) (by trivial) ?_
            try simp only [Act.put, List.setIfInBounds_toArray, List.set_cons_zero, List.set_cons_succ]
            refine wpAnyH_take (i := 52) (oi := { dst := some 99, op := Op.call { callee := Callee.value (Operand.func 20), args := #[Operand.tmp 95, Operand.tmp 98], argTypes := #[25, 3] }, type := 3, pos := "law.go:97", after := #[{ on := 48, ground := Ground.data }, { on := 51, ground := Ground.data }, { on := 47, ground := Ground.chain }, { on := 47, ground := Ground.guard }], guard := some (47, false) }) (v := undef) rfl (by kernel_rfl) (by kernel_rfl) (by kernel_rfl) (fun _ _ _ h => h) (Or.inr ⟨by rfl, rfl⟩) (by trivial) ?_
            try simp only [Act.put, List.setIfInBounds_toArray, List.set_cons_zero, List.set_cons_succ]
            refine wpAnyH_take (i := 53) (oi := { dst := some 100, op := Op.move (Operand.tmp 9), type := 3, pos := "law.go:97", after := #[{ on := 47, ground := Ground.guard }], guard := some (47, false) }) (v := undef) rfl (by kernel_rfl) (by kernel_rfl) (by kernel_rfl) (fun _ _ _ h => h) (Or.inr ⟨by rfl, rfl⟩) (by trivial) ?_
            try simp only [Act.put, List.setIfInBounds_toArray, List.set_cons_zero, List.set_cons_succ]
            refine wpAnyH_take (i := 54) (oi := { dst := some 101, op := Op.binOp BinOp.neq 3 (Operand.tmp 99) (Operand.tmp 100) 3, type := 4, pos := "law.go:97", after := #[{ on := 52, ground := Ground.data }, { on := 53, ground := Ground.data }, { on := 47, ground := Ground.guard }], guard := some (47, false) }) (v := undef) rfl (by kernel_rfl) (by kernel_rfl) (by kernel_rfl) (fun _ _ _ h => h) (Or.inr ⟨by rfl, rfl⟩) (by trivial) ?_
            try simp only [Act.put, List.setIfInBounds_toArray, List.set_cons_zero, List.set_cons_succ]
            refine wpAnyH_take (i := 55) (oi := { dst := some 102, op := Op.pick (Operand.tmp 94) (Operand.const (Value.bool true)) (Operand.tmp 101), type := 4, pos := "law.go:97", after := #[{ on := 47, ground := Ground.data }, { on := 54, ground := Ground.data }, { on := 33, ground := Ground.guard }], guard := some (33, true) }) (v := undef) rfl (by kernel_rfl) (by kernel_rfl) (by kernel_rfl) (fun _ _ _ h => h) (Or.inr ⟨by rfl, rfl⟩) (by trivial) ?_
            try simp only [Act.put, List.setIfInBounds_toArray, List.set_cons_zero, List.set_cons_succ]
            refine wpAnyH_take (i := 56) (oi := { dst := some 103, op := Op.pick (Operand.tmp 80) (Operand.tmp 102) (Operand.const (Value.bool false)), type := 4, pos := "law.go:97", after := #[{ on := 33, ground := Ground.data }, { on := 55, ground := Ground.data }, { on := 31, ground := Ground.guard }], guard := some (31, false) }) (v := ?_) rfl (by kernel_rfl) (by kernel_rfl) (by kernel_rfl) (fun _ _ _ h => h) (Or.inl ⟨by rfl, ?_⟩) (by trivial) ?_
            rotate_left
            (focus (intro w9 hSw; obtain ⟨s9, T9, U9⟩ := hSw; obtain ⟨lt, c0, c1, c2, c3⟩ := s9.cells; obtain ⟨fT0, fT1⟩ := T9.both; obtain ⟨fU0, fU1⟩ := U9.both; go_simp <;> with_reducible rfl))
            try simp only [Act.put, List.setIfInBounds_toArray, List.set_cons_zero, List.set_cons_succ]
            refine wpAnyH_take (i := 57) (oi := { dst := some 104, op := Op.pick (Operand.tmp 78) (Operand.const (Value.bool true)) (Operand.tmp 103), type := 4, pos := "law.go:97", after := #[{ on := 31, ground := Ground.data }, { on := 56, ground := Ground.data }], guard := none }) (v := ?_) rfl (by kernel_rfl) (by kernel_rfl) (by kernel_rfl) (fun _ _ _ h => h) (Or.inl ⟨by rfl, ?_⟩) (by trivial) ?_
            rotate_left
            (focus (intro w9 hSw; obtain ⟨s9, T9, U9⟩ := hSw; obtain ⟨lt, c0, c1, c2, c3⟩ := s9.cells; obtain ⟨fT0, fT1⟩ := T9.both; obtain ⟨fU0, fU1⟩ := U9.both; go_simp <;> with_reducible rfl))
            try simp only [Act.put, List.setIfInBounds_toArray, List.set_cons_zero, List.set_cons_succ]
            refine wpAnyH_done (by kernel_rfl) ?_ _
            go_wp2_with fail
            refine (first_any _).mono ?_
            rintro e wz ⟨rfl, bb⟩
            replace T := T.below bb T.lt
            replace U := U.below bb U.lt
            replace s := s.step bb
            clear bb dT0 dT1 dU0 dU1 lt c0 c1 c2 c3
            obtain ⟨lt, c0, c1, c2, c3⟩ := s.cells
            obtain ⟨dT0, dT1⟩ := T.both
            obtain ⟨dU0, dU1⟩ := U.both
            go_wp2_with fail
            refine (local_any s.z s.le).mono ?_
            rintro e wz ⟨l, rfl, bb, hl, -⟩
            replace T := T.below bb T.lt
            replace U := U.below bb U.lt
            replace s := s.step bb
            clear bb dT0 dT1 dU0 dU1 lt c0 c1 c2 c3
            obtain ⟨lt, c0, c1, c2, c3⟩ := s.cells
            replace hl := (hl ⟨qt0.out, qm0.out⟩).uniq hS ⟨_, hr.out, rfl⟩
            simp only [offOf] at hl
            obtain rfl : l = u + bs := by omega
            clear hl
            obtain ⟨dT0, dT1⟩ := T.both
            obtain ⟨dU0, dU1⟩ := U.both
            go_wp2_with fail
            go_ret
            exact ⟨rfl, s.b⟩
          | some b =>
            simp only [shv]
            go_wp2_with fail
            clear dT0 dT1
            obtain ⟨pU, hpU⟩ : ∃ pU, pU = wz.heap.size := ⟨_, rfl⟩
            replace T := T.below ((Below.refl _ _).alloc (Nat.le_refl _) (.cells #[.int .i64 b.at_, .int .i64 b.off] 29)) T.lt
            have U := Two.new_ wz (b.at_) (b.off) wz.heap.size rfl
            replace s := s.alloc (.cells #[.int .i64 b.at_, .int .i64 b.off] 29)
            rw [← hpU] at U ⊢
            clear hpU
            generalize wz.alloc (.cells #[.int .i64 b.at_, .int .i64 b.off] 29) = wy at s U T ⊢
            clear lt c0 c1 c2 c3
            obtain ⟨lt, c0, c1, c2, c3⟩ := s.cells
            obtain ⟨dT0, dT1⟩ := T.both
            obtain ⟨dU0, dU1⟩ := U.both
            refine (zoffset_any s.z s.le).mono ?_
            rintro e wz ⟨o, rfl, bb, ho, -⟩
            replace T := T.below bb T.lt
            replace U := U.below bb U.lt
            replace s := s.step bb
            clear bb dT0 dT1 dU0 dU1 lt c0 c1 c2 c3
            obtain ⟨lt, c0, c1, c2, c3⟩ := s.cells
            replace ho := ((ho ⟨qt, qm⟩).uniq hS ⟨_, hr.out, rfl⟩).symm
            simp only [offOf] at ho
            subst ho
            obtain ⟨u1, u2⟩ := qt0.out
            obtain ⟨b1, b2⟩ := qb0.out
            obtain ⟨dT0, dT1⟩ := T.both
            obtain ⟨dU0, dU1⟩ := U.both
            go_wp2_with fail
            have t0 := hq.out.2.1
            obtain ⟨t1, t2⟩ := shift_at qm0.out.ok hq.out.1
            obtain ⟨t3, t4⟩ := hS.off _ hq.out.1
            have k2 : decide (b.at_ ≤ u) = false := decide_eq_false (by omega)
            have zw1 : IntKind.i64.wrap (b.at_ - 1) = b.at_ - 1 := wi64 (by omega) (by omega)
            have zw3 : IntKind.i64.wrap (u + bs) = u + bs := wi64 (by omega) (by omega)
            replace s := s.drew
            replace T := T.drew
            replace U := U.drew
            clear dT0 dT1 dU0 dU1 lt c0 c1 c2 c3
            obtain ⟨lt, c0, c1, c2, c3⟩ := s.cells
            obtain ⟨dT0, dT1⟩ := T.both
            obtain ⟨dU0, dU1⟩ := U.both
            refine wp_region_held_drew (S := fun w9 => St w w9 w.heap.size bs A c A' c' fr L Y ∧ Two w9 pT (0) (0) ∧ Two w9 pU (b.at_) (b.off)) (by kernel_rfl) ⟨s, T, U⟩ (fun _ => ?_)
            refine wpAnyH_take (i := 0) (oi := { dst := some 47, op := Op.move (Operand.tmp 6), type := 4, pos := "law.go:97", after := #[], guard := none }) (v := ?_) rfl (by kernel_rfl) (by kernel_rfl) (by kernel_rfl) (fun _ _ _ h => h) (Or.inl ⟨by rfl, ?_⟩) (by trivial) ?_
            rotate_left
            (focus (intro w9 hSw; obtain ⟨s9, T9, U9⟩ := hSw; obtain ⟨lt, c0, c1, c2, c3⟩ := s9.cells; obtain ⟨fT0, fT1⟩ := T9.both; obtain ⟨fU0, fU1⟩ := U9.both; go_simp <;> with_reducible rfl))
            try simp only [Act.put, List.setIfInBounds_toArray, List.set_cons_zero, List.set_cons_succ]
            refine wpAnyH_take (i := 1) (oi := { dst := some 48, op := Op.move (Operand.tmp 47), type := 4, pos := "law.go:97", after := #[{ on := 0, ground := Ground.data }], guard := none }) (v := ?_) rfl (by kernel_rfl) (by kernel_rfl) (by kernel_rfl) (fun _ _ _ h => h) (Or.inl ⟨by rfl, ?_⟩) (by trivial) ?_
            rotate_left
            (focus (intro w9 hSw; obtain ⟨s9, T9, U9⟩ := hSw; obtain ⟨lt, c0, c1, c2, c3⟩ := s9.cells; obtain ⟨fT0, fT1⟩ := T9.both; obtain ⟨fU0, fU1⟩ := U9.both; go_simp <;> with_reducible rfl))
            try simp only [Act.put, List.setIfInBounds_toArray, List.set_cons_zero, List.set_cons_succ]
            refine wpAnyH_take (i := 2) (oi := { dst := some 49, op := Op.fieldAddr 29 (Operand.tmp 5) 0, type := 0, pos := "law.go:97", after := #[{ on := 1, ground := Ground.guard }], guard := some (1, true) }) (v := undef) rfl (by kernel_rfl) (by kernel_rfl) (by kernel_rfl) (fun _ _ _ h => h) (Or.inr ⟨by rfl, rfl⟩) (by trivial) ?_
            try simp only [Act.put, List.setIfInBounds_toArray, List.set_cons_zero, List.set_cons_succ]
            refine wpAnyH_take (i := 3) (oi := { dst := some 50, op := Op.load 3 (Operand.tmp 49), type := 3, pos := "law.go:97", after := #[{ on := 2, ground := Ground.data }, { on := 1, ground := Ground.guard }], guard := some (1, true) }) (v := undef) rfl (by kernel_rfl) (by kernel_rfl) (by kernel_rfl) (fun _ _ _ h => h) (Or.inr ⟨by rfl, rfl⟩) (by trivial) ?_
            try simp only [Act.put, List.setIfInBounds_toArray, List.set_cons_zero, List.set_cons_succ]
            refine wpAnyH_take (i := 4) (oi := { dst := some 51, op := Op.move (Operand.tmp 1), type := 3, pos := "law.go:97", after := #[{ on := 1, ground := Ground.guard }], guard := some (1, true) }) (v := undef) rfl (by kernel_rfl) (by kernel_rfl) (by kernel_rfl) (fun _ _ _ h => h) (Or.inr ⟨by rfl, rfl⟩) (by trivial) ?_
            try simp only [Act.put, List.setIfInBounds_toArray, List.set_cons_zero, List.set_cons_succ]
            refine wpAnyH_take (i := 5) (oi := { dst := some 52, op := Op.binOp BinOp.gtr 3 (Operand.tmp 50) (Operand.tmp 51) 3, type := 4, pos := "law.go:97", after := #[{ on := 3, ground := Ground.data }, { on := 4, ground := Ground.data }, { on := 1, ground := Ground.guard }], guard := some (1, true) }) (v := undef) rfl (by kernel_rfl) (by kernel_rfl) (by kernel_rfl) (fun _ _ _ h => h) (Or.inr ⟨by rfl, rfl⟩) (by trivial) ?_
            try simp only [Act.put, List.setIfInBounds_toArray, List.set_cons_zero, List.set_cons_succ]
            refine wpAnyH_take (i := 6) (oi := { dst := some 53, op := Op.move (Operand.tmp 52), type := 4, pos := "law.go:97", after := #[{ on := 5, ground := Ground.data }, { on := 1, ground := Ground.chain }, { on := 1, ground := Ground.guard }], guard := some (1, true) }) (v := undef) rfl (by kernel_rfl) (by kernel_rfl) (by kernel_rfl) (fun _ _ _ h => h) (Or.inr ⟨by rfl, rfl⟩) (by trivial) ?_
            try simp only [Act.put, List.setIfInBounds_toArray, List.set_cons_zero, List.set_cons_succ]
            refine wpAnyH_take (i := 7) (oi := { dst := some 54, op := Op.fieldAddr 29 (Operand.tmp 5) 1, type := 0, pos := "law.go:97", after := #[{ on := 6, ground := Ground.guard }], guard := some (6, false) }) (v := undef) rfl (by kernel_rfl) (by kernel_rfl) (by kernel_rfl) (fun _ _ _ h => h) (Or.inr ⟨by rfl, rfl⟩) (by trivial) ?_
            try simp only [Act.put, List.setIfInBounds_toArray, List.set_cons_zero, List.set_cons_succ]
            refine wpAnyH_take (i := 8) (oi := { dst := some 55, op := Op.load 3 (Operand.tmp 54), type := 3, pos := "law.go:97", after := #[{ on := 7, ground := Ground.data }, { on := 6, ground := Ground.guard }], guard := some (6, false) }) (v := undef) rfl (by kernel_rfl) (by kernel_rfl) (by kernel_rfl) (fun _ _ _ h => h) (Or.inr ⟨by rfl, rfl⟩) (by trivial) ?_
            try simp only [Act.put, List.setIfInBounds_toArray, List.set_cons_zero, List.set_cons_succ]
            refine wpAnyH_take (i := 9) (oi := { dst := some 56, op := Op.move (Operand.tmp 9), type := 3, pos := "law.go:97", after := #[{ on := 6, ground := Ground.guard }], guard := some (6, false) }) (v := undef) rfl (by kernel_rfl) (by kernel_rfl) (by kernel_rfl) (fun _ _ _ h => h) (Or.inr ⟨by rfl, rfl⟩) (by trivial) ?_
            try simp only [Act.put, List.setIfInBounds_toArray, List.set_cons_zero, List.set_cons_succ]
            refine wpAnyH_take (i := 10) (oi := { dst := some 57, op := Op.binOp BinOp.neq 3 (Operand.tmp 55) (Operand.tmp 56) 3, type := 4, pos := "law.go:97", after := #[{ on := 8, ground := Ground.data }, { on := 9, ground := Ground.data }, { on := 6, ground := Ground.guard }], guard := some (6, false) }) (v := undef) rfl (by kernel_rfl) (by kernel_rfl) (by kernel_rfl) (fun _ _ _ h => h) (Or.inr ⟨by rfl, rfl⟩) (by trivial) ?_
            try simp only [Act.put, List.setIfInBounds_toArray, List.set_cons_zero, List.set_cons_succ]
            refine wpAnyH_take (i := 11) (oi := { dst := some 58, op := Op.pick (Operand.tmp 53) (Operand.const (Value.bool true)) (Operand.tmp 57), type := 4, pos := "law.go:97", after := #[{ on := 6, ground := Ground.data }, { on := 10, ground := Ground.data }, { on := 1, ground := Ground.guard }], guard := some (1, true) }) (v := undef) rfl (by kernel_rfl) (by kernel_rfl) (by kernel_rfl) (fun _ _ _ h => h) (Or.inr ⟨by rfl, rfl⟩) (by trivial) ?_
            try simp only [Act.put, List.setIfInBounds_toArray, List.set_cons_zero, List.set_cons_succ]
            refine wpAnyH_take (i := 12) (oi := { dst := some 59, op := Op.move (Operand.tmp 58), type := 4, pos := "law.go:97", after := #[{ on := 11, ground := Ground.data }, { on := 6, ground := Ground.chain }, { on := 1, ground := Ground.guard }], guard := some (1, true) }) (v := undef) rfl (by kernel_rfl) (by kernel_rfl) (by kernel_rfl) (fun _ _ _ h => h) (Or.inr ⟨by rfl, rfl⟩) (by trivial) ?_
            try simp only [Act.put, List.setIfInBounds_toArray, List.set_cons_zero, List.set_cons_succ]
            refine wpAnyH_take (i := 13) (oi := { dst := some 60, op := Op.load 25 (Operand.tmp 2), type := 25, pos := "law.go:97", after := #[{ on := 12, ground := Ground.guard }], guard := some (12, false) }) (v := undef) rfl (by kernel_rfl) (by kernel_rfl) (by kernel_rfl) (fun _ _ _ h => h) (Or.inr ⟨by rfl, rfl⟩) (by trivial) ?_
            try simp only [Act.put, List.setIfInBounds_toArray, List.set_cons_zero, List.set_cons_succ]
            refine wpAnyH_take (i := 14) (oi := { dst := some 61, op := Op.fieldAddr 29 (Operand.tmp 5) 0, type := 0, pos := "law.go:97", after := #[{ on := 12, ground := Ground.guard }], guard := some (12, false) }) (v := undef) rfl (by kernel_rfl) (by kernel_rfl) (by kernel_rfl) (fun _ _ _ h => h) (Or.inr ⟨by rfl, rfl⟩) (by trivial) ?_
            try simp only [Act.put, List.setIfInBounds_toArray, List.set_cons_zero, List.set_cons_succ]
            refine wpAnyH_take (i := 15) (oi := { dst := some 62, op := Op.load 3 (Operand.tmp 61), type := 3, pos := "law.go:97", after := #[{ on := 14, ground := Ground.data }, { on := 12, ground := Ground.guard }], guard := some (12, false) }) (v := undef) rfl (by kernel_rfl) (by kernel_rfl) (by kernel_rfl) (fun _ _ _ h => h) (Or.inr ⟨by rfl, rfl⟩) (by trivial) ?_
            try simp only [Act.put, List.setIfInBounds_toArray, List.set_cons_zero, List.set_cons_succ]
            refine wpAnyH_take (i := 16) (oi := { dst := some 63, op := Op.call { callee := Callee.value (Operand.func 20), args := #[Operand.tmp 60, Operand.tmp 62], argTypes := #[25, 3] }, type := 3, pos := "law.go:97", after := #[{ on := 13, ground := Ground.data }, { on := 15, ground := Ground.data }, { on := 12, ground := Ground.chain }, { on := 12, ground := Ground.guard }], guard := some (12, false) }) (v := undef) rfl (by kernel_rfl) (by kernel_rfl) (by kernel_rfl) (fun _ _ _ h => h) (Or.inr ⟨by rfl, rfl⟩) (by trivial) ?_
            try simp only [Act.put, List.setIfInBounds_toArray, List.set_cons_zero, List.set_cons_succ]
            refine wpAnyH_take (i := 17) (oi := { dst := some 64, op := Op.move (Operand.tmp 9), type := 3, pos := "law.go:97", after := #[{ on := 12, ground := Ground.guard }], guard := some (12, false) }) (v := undef) rfl (by kernel_rfl) (by kernel_rfl) (by kernel_rfl) (fun _ _ _ h => h) (Or.inr ⟨by rfl, rfl⟩) (by trivial) ?_
            try simp only [Act.put, List.setIfInBounds_toArray, List.set_cons_zero, List.set_cons_succ]
            refine wpAnyH_take (i := 18) (oi := { dst := some 65, op := Op.binOp BinOp.neq 3 (Operand.tmp 63) (Operand.tmp 64) 3, type := 4, pos := "law.go:97", after := #[{ on := 16, ground := Ground.data }, { on := 17, ground := Ground.data }, { on := 12, ground := Ground.guard }], guard := some (12, false) }) (v := undef) rfl (by kernel_rfl) (by kernel_rfl) (by kernel_rfl) (fun _ _ _ h => h) (Or.inr ⟨by rfl, rfl⟩) (by trivial) ?_
            try simp only [Act.put, List.setIfInBounds_toArray, List.set_cons_zero, List.set_cons_succ]
            refine wpAnyH_take (i := 19) (oi := { dst := some 66, op := Op.pick (Operand.tmp 59) (Operand.const (Value.bool true)) (Operand.tmp 65), type := 4, pos := "law.go:97", after := #[{ on := 12, ground := Ground.data }, { on := 18, ground := Ground.data }, { on := 1, ground := Ground.guard }], guard := some (1, true) }) (v := undef) rfl (by kernel_rfl) (by kernel_rfl) (by kernel_rfl) (fun _ _ _ h => h) (Or.inr ⟨by rfl, rfl⟩) (by trivial) ?_
            try simp only [Act.put, List.setIfInBounds_toArray, List.set_cons_zero, List.set_cons_succ]
            refine wpAnyH_take (i := 20) (oi := { dst := some 67, op := Op.pick (Operand.tmp 48) (Operand.tmp 66) (Operand.const (Value.bool false)), type := 4, pos := "law.go:97", after := #[{ on := 1, ground := Ground.data }, { on := 19, ground := Ground.data }], guard := none }) (v := ?_) rfl (by kernel_rfl) (by kernel_rfl) (by kernel_rfl) (fun _ _ _ h => h) (Or.inl ⟨by rfl, ?_⟩) (by trivial) ?_
            rotate_left
            (focus (intro w9 hSw; obtain ⟨s9, T9, U9⟩ := hSw; obtain ⟨lt, c0, c1, c2, c3⟩ := s9.cells; obtain ⟨fT0, fT1⟩ := T9.both; obtain ⟨fU0, fU1⟩ := U9.both; go_simp <;> with_reducible rfl))
            try simp only [Act.put, List.setIfInBounds_toArray, List.set_cons_zero, List.set_cons_succ]
            refine wpAnyH_take (i := 21) (oi := { dst := some 68, op := Op.move (Operand.tmp 67), type := 4, pos := "law.go:97", after := #[{ on := 20, ground := Ground.data }, { on := 16, ground := Ground.chain }], guard := none }) (v := ?_) rfl (by kernel_rfl) (by kernel_rfl) (by kernel_rfl) (fun _ _ _ h => h) (Or.inl ⟨by rfl, ?_⟩) (by trivial) ?_
            rotate_left
            (focus (intro w9 hSw; obtain ⟨s9, T9, U9⟩ := hSw; obtain ⟨lt, c0, c1, c2, c3⟩ := s9.cells; obtain ⟨fT0, fT1⟩ := T9.both; obtain ⟨fU0, fU1⟩ := U9.both; go_simp <;> with_reducible rfl))
            try simp only [Act.put, List.setIfInBounds_toArray, List.set_cons_zero, List.set_cons_succ]
            refine wpAnyH_take (i := 22) (oi := { dst := some 69, op := Op.move (Operand.tmp 6), type := 4, pos := "law.go:97", after := #[{ on := 21, ground := Ground.guard }], guard := some (21, false) }) (v := ?_) rfl (by kernel_rfl) (by kernel_rfl) (by kernel_rfl) (fun _ _ _ h => h) (Or.inl ⟨by rfl, ?_⟩) (by trivial) ?_
            rotate_left
            (focus (intro w9 hSw; obtain ⟨s9, T9, U9⟩ := hSw; obtain ⟨lt, c0, c1, c2, c3⟩ := s9.cells; obtain ⟨fT0, fT1⟩ := T9.both; obtain ⟨fU0, fU1⟩ := U9.both; go_simp <;> with_reducible rfl))
            try simp only [Act.put, List.setIfInBounds_toArray, List.set_cons_zero, List.set_cons_succ]
            refine wpAnyH_take (i := 23) (oi := { dst := some 70, op := Op.unOp UnOp.not 4 (Operand.tmp 69), type := 4, pos := "law.go:97", after := #[{ on := 22, ground := Ground.data }, { on := 21, ground := Ground.guard }], guard := some (21, false) }) (v := ?_) rfl (by kernel_rfl) (by kernel_rfl) (by kernel_rfl) (fun _ _ _ h => h) (Or.inl ⟨by rfl, ?_⟩) (by trivial) ?_
            rotate_left
            (focus (intro w9 hSw; obtain ⟨s9, T9, U9⟩ := hSw; obtain ⟨lt, c0, c1, c2, c3⟩ := s9.cells; obtain ⟨fT0, fT1⟩ := T9.both; obtain ⟨fU0, fU1⟩ := U9.both; go_simp <;> with_reducible rfl))
            try simp only [Act.put, List.setIfInBounds_toArray, List.set_cons_zero, List.set_cons_succ]
            refine wpAnyH_take (i := 24) (oi := { dst := some 71, op := Op.move (Operand.tmp 70), type := 4, pos := "law.go:97", after := #[{ on := 23, ground := Ground.data }, { on := 21, ground := Ground.chain }, { on := 21, ground := Ground.guard }], guard := some (21, false) }) (v := ?_) rfl (by kernel_rfl) (by kernel_rfl) (by kernel_rfl) (fun _ _ _ h => h) (Or.inl ⟨by rfl, ?_⟩) (by trivial) ?_
            rotate_left
            (focus (intro w9 hSw; obtain ⟨s9, T9, U9⟩ := hSw; obtain ⟨lt, c0, c1, c2, c3⟩ := s9.cells; obtain ⟨fT0, fT1⟩ := T9.both; obtain ⟨fU0, fU1⟩ := U9.both; go_simp <;> with_reducible rfl))
            try simp only [Act.put, List.setIfInBounds_toArray, List.set_cons_zero, List.set_cons_succ]
            refine wpAnyH_take (i := 25) (oi := { dst := some 72, op := Op.move (Operand.tmp 9), type := 3, pos := "law.go:97", after := #[{ on := 24, ground := Ground.guard }], guard := some (24, true) }) (v := ?_) rfl (by kernel_rfl) (by kernel_rfl) (by kernel_rfl) (fun _ _ _ h => h) (Or.inl ⟨by rfl, ?_⟩) (by trivial) ?_
            rotate_left
            (focus (intro w9 hSw; obtain ⟨s9, T9, U9⟩ := hSw; obtain ⟨lt, c0, c1, c2, c3⟩ := s9.cells; obtain ⟨fT0, fT1⟩ := T9.both; obtain ⟨fU0, fU1⟩ := U9.both; go_simp <;> with_reducible rfl))
            try simp only [Act.put, List.setIfInBounds_toArray, List.set_cons_zero, List.set_cons_succ]
            refine wpAnyH_take (i := 26) (oi := { dst := some 73, op := Op.fieldAddr 25 (Operand.tmp 2) 0, type := 0, pos := "law.go:97", after := #[{ on := 24, ground := Ground.guard }], guard := some (24, true) }) (v := ?_) rfl (by kernel_rfl) (by kernel_rfl) (by kernel_rfl) (fun _ _ _ h => h) (Or.inl ⟨by rfl, ?_⟩) (by trivial) ?_
            rotate_left
            (focus (intro w9 hSw; obtain ⟨s9, T9, U9⟩ := hSw; obtain ⟨lt, c0, c1, c2, c3⟩ := s9.cells; obtain ⟨fT0, fT1⟩ := T9.both; obtain ⟨fU0, fU1⟩ := U9.both; go_simp <;> with_reducible rfl))
            try simp only [Act.put, List.setIfInBounds_toArray, List.set_cons_zero, List.set_cons_succ]
            refine wpAnyH_take (i := 27) (oi := { dst := some 74, op := Op.load 3 (Operand.tmp 73), type := 3, pos := "law.go:97", after := #[{ on := 26, ground := Ground.data }, { on := 24, ground := Ground.guard }], guard := some (24, true) }) (v := ?_) rfl (by kernel_rfl) (by kernel_rfl) (by kernel_rfl) (fun _ _ _ h => h) (Or.inl ⟨by rfl, ?_⟩) (by trivial) ?_
            rotate_left
            (focus (intro w9 hSw; obtain ⟨s9, T9, U9⟩ := hSw; obtain ⟨lt, c0, c1, c2, c3⟩ := s9.cells; obtain ⟨fT0, fT1⟩ := T9.both; obtain ⟨fU0, fU1⟩ := U9.both; go_simp <;> with_reducible rfl))
            try simp only [Act.put, List.setIfInBounds_toArray, List.set_cons_zero, List.set_cons_succ]
            refine wpAnyH_take (i := 28) (oi := { dst := some 75, op := Op.binOp BinOp.neq 3 (Operand.tmp 72) (Operand.tmp 74) 3, type := 4, pos := "law.go:97", after := #[{ on := 25, ground := Ground.data }, { on := 27, ground := Ground.data }, { on := 24, ground := Ground.guard }], guard := some (24, true) }) (v := ?_) rfl (by kernel_rfl) (by kernel_rfl) (by kernel_rfl) (fun _ _ _ h => h) (Or.inl ⟨by rfl, ?_⟩) (by trivial) ?_
            rotate_left
            (focus (intro w9 hSw; obtain ⟨s9, T9, U9⟩ := hSw; obtain ⟨lt, c0, c1, c2, c3⟩ := s9.cells; obtain ⟨fT0, fT1⟩ := T9.both; obtain ⟨fU0, fU1⟩ := U9.both; go_simp <;> with_reducible rfl))
            try simp only [Act.put, List.setIfInBounds_toArray, List.set_cons_zero, List.set_cons_succ]
            refine wpAnyH_take (i := 29) (oi := { dst := some 76, op := Op.pick (Operand.tmp 71) (Operand.tmp 75) (Operand.const (Value.bool false)), type := 4, pos := "law.go:97", after := #[{ on := 24, ground := Ground.data }, { on := 28, ground := Ground.data }, { on := 21, ground := Ground.guard }], guard := some (21, false) }) (v := ?_) rfl (by kernel_rfl) (by kernel_rfl) (by kernel_rfl) (fun _ _ _ h => h) (Or.inl ⟨by rfl, ?_⟩) (by trivial) ?_
            rotate_left
            (focus (intro w9 hSw; obtain ⟨s9, T9, U9⟩ := hSw; obtain ⟨lt, c0, c1, c2, c3⟩ := s9.cells; obtain ⟨fT0, fT1⟩ := T9.both; obtain ⟨fU0, fU1⟩ := U9.both; go_simp <;> with_reducible rfl))
            try simp only [Act.put, List.setIfInBounds_toArray, List.set_cons_zero, List.set_cons_succ]
            refine wpAnyH_take (i := 30) (oi := { dst := some 77, op := Op.pick (Operand.tmp 68) (Operand.const (Value.bool true)) (Operand.tmp 76), type := 4, pos := "law.go:97", after := #[{ on := 21, ground := Ground.data }, { on := 29, ground := Ground.data }], guard := none }) (v := ?_) rfl (by kernel_rfl) (by kernel_rfl) (by kernel_rfl) (fun _ _ _ h => h) (Or.inl ⟨by rfl, ?_⟩) (by trivial) ?_
            rotate_left
            (focus (intro w9 hSw; obtain ⟨s9, T9, U9⟩ := hSw; obtain ⟨lt, c0, c1, c2, c3⟩ := s9.cells; obtain ⟨fT0, fT1⟩ := T9.both; obtain ⟨fU0, fU1⟩ := U9.both; go_simp <;> with_reducible rfl))
            try simp only [Act.put, List.setIfInBounds_toArray, List.set_cons_zero, List.set_cons_succ]
            refine wpAnyH_take (i := 31) (oi := { dst := some 78, op := Op.move (Operand.tmp 77), type := 4, pos := "law.go:97", after := #[{ on := 30, ground := Ground.data }, { on := 24, ground := Ground.chain }], guard := none }) (v := ?_) rfl (by kernel_rfl) (by kernel_rfl) (by kernel_rfl) (fun _ _ _ h => h) (Or.inl ⟨by rfl, ?_⟩) (by trivial) ?_
            rotate_left
            (focus (intro w9 hSw; obtain ⟨s9, T9, U9⟩ := hSw; obtain ⟨lt, c0, c1, c2, c3⟩ := s9.cells; obtain ⟨fT0, fT1⟩ := T9.both; obtain ⟨fU0, fU1⟩ := U9.both; go_simp <;> with_reducible rfl))
            try simp only [Act.put, List.setIfInBounds_toArray, List.set_cons_zero, List.set_cons_succ]
            refine wpAnyH_take (i := 32) (oi := { dst := some 79, op := Op.move (Operand.tmp 8), type := 4, pos := "law.go:97", after := #[{ on := 31, ground := Ground.guard }], guard := some (31, false) }) (v := ?_) rfl (by kernel_rfl) (by kernel_rfl) (by kernel_rfl) (fun _ _ _ h => h) (Or.inl ⟨by rfl, ?_⟩) (by trivial) ?_
            rotate_left
            (focus (intro w9 hSw; obtain ⟨s9, T9, U9⟩ := hSw; obtain ⟨lt, c0, c1, c2, c3⟩ := s9.cells; obtain ⟨fT0, fT1⟩ := T9.both; obtain ⟨fU0, fU1⟩ := U9.both; go_simp <;> with_reducible rfl))
            try simp only [Act.put, List.setIfInBounds_toArray, List.set_cons_zero, List.set_cons_succ]
            refine wpAnyH_take (i := 33) (oi := { dst := some 80, op := Op.move (Operand.tmp 79), type := 4, pos := "law.go:97", after := #[{ on := 32, ground := Ground.data }, { on := 31, ground := Ground.chain }, { on := 31, ground := Ground.guard }], guard := some (31, false) }) (v := ?_) rfl (by kernel_rfl) (by kernel_rfl) (by kernel_rfl) (fun _ _ _ h => h) (Or.inl ⟨by rfl, ?_⟩) (by trivial) ?_
            rotate_left
            (focus (intro w9 hSw; obtain ⟨s9, T9, U9⟩ := hSw; obtain ⟨lt, c0, c1, c2, c3⟩ := s9.cells; obtain ⟨fT0, fT1⟩ := T9.both; obtain ⟨fU0, fU1⟩ := U9.both; go_simp <;> with_reducible rfl))
            try simp only [Act.put, List.setIfInBounds_toArray, List.set_cons_zero, List.set_cons_succ]
            refine wpAnyH_take (i := 34) (oi := { dst := some 81, op := Op.fieldAddr 29 (Operand.tmp 7) 0, type := 0, pos := "law.go:97", after := #[{ on := 33, ground := Ground.guard }], guard := some (33, true) }) (v := ?_) rfl (by kernel_rfl) (by kernel_rfl) (by kernel_rfl) (fun _ _ _ h => h) (Or.inl ⟨by rfl, ?_⟩) (by trivial) ?_
            rotate_left
            (focus (intro w9 hSw; obtain ⟨s9, T9, U9⟩ := hSw; obtain ⟨lt, c0, c1, c2, c3⟩ := s9.cells; obtain ⟨fT0, fT1⟩ := T9.both; obtain ⟨fU0, fU1⟩ := U9.both; go_simp <;> with_reducible rfl))
            try simp only [Act.put, List.setIfInBounds_toArray, List.set_cons_zero, List.set_cons_succ]
            refine wpAnyH_take (i := 35) (oi := { dst := some 82, op := Op.load 3 (Operand.tmp 81), type := 3, pos := "law.go:97", after := #[{ on := 34, ground := Ground.data }, { on := 33, ground := Ground.guard }], guard := some (33, true) }) (v := ?_) rfl (by kernel_rfl) (by kernel_rfl) (by kernel_rfl) (fun _ _ _ h => h) (Or.inl ⟨by rfl, ?_⟩) (by trivial) ?_
            rotate_left
            (focus (intro w9 hSw; obtain ⟨s9, T9, U9⟩ := hSw; obtain ⟨lt, c0, c1, c2, c3⟩ := s9.cells; obtain ⟨fT0, fT1⟩ := T9.both; obtain ⟨fU0, fU1⟩ := U9.both; go_simp <;> with_reducible rfl))
            try simp only [Act.put, List.setIfInBounds_toArray, List.set_cons_zero, List.set_cons_succ]
            refine wpAnyH_take (i := 36) (oi := { dst := some 83, op := Op.move (Operand.tmp 1), type := 3, pos := "law.go:97", after := #[{ on := 33, ground := Ground.guard }], guard := some (33, true) }) (v := ?_) rfl (by kernel_rfl) (by kernel_rfl) (by kernel_rfl) (fun _ _ _ h => h) (Or.inl ⟨by rfl, ?_⟩) (by trivial) ?_
            rotate_left
            (focus (intro w9 hSw; obtain ⟨s9, T9, U9⟩ := hSw; obtain ⟨lt, c0, c1, c2, c3⟩ := s9.cells; obtain ⟨fT0, fT1⟩ := T9.both; obtain ⟨fU0, fU1⟩ := U9.both; go_simp <;> with_reducible rfl))
            try simp only [Act.put, List.setIfInBounds_toArray, List.set_cons_zero, List.set_cons_succ]
            refine wpAnyH_take (i := 37) (oi := { dst := some 84, op := Op.binOp BinOp.leq 3 (Operand.tmp 82) (Operand.tmp 83) 3, type := 4, pos := "law.go:97", after := #[{ on := 35, ground := Ground.data }, { on := 36, ground := Ground.data }, { on := 33, ground := Ground.guard }], guard := some (33, true) }) (v := ?_) rfl (by kernel_rfl) (by kernel_rfl) (by kernel_rfl) (fun _ _ _ h => h) (Or.inl ⟨by rfl, ?_⟩) (by trivial) ?_
            rotate_left
            (focus (intro w9 hSw; obtain ⟨s9, T9, U9⟩ := hSw; obtain ⟨lt, c0, c1, c2, c3⟩ := s9.cells; obtain ⟨fT0, fT1⟩ := T9.both; obtain ⟨fU0, fU1⟩ := U9.both; go_simp <;> with_reducible rfl))
            try simp only [Act.put, List.setIfInBounds_toArray, List.set_cons_zero, List.set_cons_succ]
            refine wpAnyH_take (i := 38) (oi := { dst := some 85, op := Op.move (Operand.tmp 84), type := 4, pos := "law.go:97", after := #[{ on := 37, ground := Ground.data }, { on := 33, ground := Ground.chain }, { on := 33, ground := Ground.guard }], guard := some (33, true) }) (v := ?_) rfl (by kernel_rfl) (by kernel_rfl) (by kernel_rfl) (fun _ _ _ h => h) (Or.inl ⟨by rfl, ?_⟩) (by trivial) ?_
            rotate_left
            (focus (intro w9 hSw; obtain ⟨s9, T9, U9⟩ := hSw; obtain ⟨lt, c0, c1, c2, c3⟩ := s9.cells; obtain ⟨fT0, fT1⟩ := T9.both; obtain ⟨fU0, fU1⟩ := U9.both; go_simp <;> with_reducible rfl))
            try simp only [Act.put, List.setIfInBounds_toArray, List.set_cons_zero, List.set_cons_succ]
            refine wpAnyH_take (i := 39) (oi := { dst := some 86, op := Op.load 25 (Operand.tmp 2), type := 25, pos := "law.go:97", after := #[{ on := 38, ground := Ground.guard }], guard := some (38, false) }) (v := ?_) rfl (by kernel_rfl) (by kernel_rfl) (by kernel_rfl) (fun _ _ _ h => h) (Or.inl ⟨by rfl, ?_⟩) (by trivial) ?_
            rotate_left
            (focus (intro w9 hSw; obtain ⟨s9, T9, U9⟩ := hSw; obtain ⟨lt, c0, c1, c2, c3⟩ := s9.cells; obtain ⟨fT0, fT1⟩ := T9.both; obtain ⟨fU0, fU1⟩ := U9.both; go_simp <;> with_reducible rfl))
            try simp only [Act.put, List.setIfInBounds_toArray, List.set_cons_zero, List.set_cons_succ]
            refine wpAnyH_take (i := 40) (oi := { dst := some 87, op := Op.fieldAddr 29 (Operand.tmp 7) 0, type := 0, pos := "law.go:97", after := #[{ on := 38, ground := Ground.guard }], guard := some (38, false) }) (v := ?_) rfl (by kernel_rfl) (by kernel_rfl) (by kernel_rfl) (fun _ _ _ h => h) (Or.inl ⟨by rfl, ?_⟩) (by trivial) ?_
            rotate_left
            (focus (intro w9 hSw; obtain ⟨s9, T9, U9⟩ := hSw; obtain ⟨lt, c0, c1, c2, c3⟩ := s9.cells; obtain ⟨fT0, fT1⟩ := T9.both; obtain ⟨fU0, fU1⟩ := U9.both; go_simp <;> with_reducible rfl))
            try simp only [Act.put, List.setIfInBounds_toArray, List.set_cons_zero, List.set_cons_succ]
            refine wpAnyH_take (i := 41) (oi := { dst := some 88, op := Op.load 3 (Operand.tmp 87), type := 3, pos := "law.go:97", after := #[{ on := 40, ground := Ground.data }, { on := 38, ground := Ground.guard }], guard := some (38, false) }) (v := ?_) rfl (by kernel_rfl) (by kernel_rfl) (by kernel_rfl) (fun _ _ _ h => h) (Or.inl ⟨by rfl, ?_⟩) (by trivial) ?_
            rotate_left
            (focus (intro w9 hSw; obtain ⟨s9, T9, U9⟩ := hSw; obtain ⟨lt, c0, c1, c2, c3⟩ := s9.cells; obtain ⟨fT0, fT1⟩ := T9.both; obtain ⟨fU0, fU1⟩ := U9.both; go_simp <;> with_reducible rfl))
            try simp only [Act.put, List.setIfInBounds_toArray, List.set_cons_zero, List.set_cons_succ]
            refine wpAnyH_take (i := 43) (oi := { dst := some 90, op := Op.fieldAddr 29 (Operand.tmp 7) 1, type := 0, pos := "law.go:97", after := #[{ on := 38, ground := Ground.guard }], guard := some (38, false) }) (v := ?_) rfl (by kernel_rfl) (by kernel_rfl) (by kernel_rfl) (fun _ _ _ h => h) (Or.inl ⟨by rfl, ?_⟩) (by trivial) ?_
            rotate_left
            (focus (intro w9 hSw; obtain ⟨s9, T9, U9⟩ := hSw; obtain ⟨lt, c0, c1, c2, c3⟩ := s9.cells; obtain ⟨fT0, fT1⟩ := T9.both; obtain ⟨fU0, fU1⟩ := U9.both; go_simp <;> with_reducible rfl))
            try simp only [Act.put, List.setIfInBounds_toArray, List.set_cons_zero, List.set_cons_succ]
            refine wpAnyH_take (i := 44) (oi := { dst := some 91, op := Op.load 3 (Operand.tmp 90), type := 3, pos := "law.go:97", after := #[{ on := 43, ground := Ground.data }, { on := 38, ground := Ground.guard }], guard := some (38, false) }) (v := ?_) rfl (by kernel_rfl) (by kernel_rfl) (by kernel_rfl) (fun _ _ _ h => h) (Or.inl ⟨by rfl, ?_⟩) (by trivial) ?_
            rotate_left
            (focus (intro w9 hSw; obtain ⟨s9, T9, U9⟩ := hSw; obtain ⟨lt, c0, c1, c2, c3⟩ := s9.cells; obtain ⟨fT0, fT1⟩ := T9.both; obtain ⟨fU0, fU1⟩ := U9.both; go_simp <;> with_reducible rfl))
            try simp only [Act.put, List.setIfInBounds_toArray, List.set_cons_zero, List.set_cons_succ]
            refine wpAnyH_ready (rs := [42]) (by kernel_rfl) (by simp) ?_
            refine AllReadyH.cons (o := { dst := some 89, op := Op.call { callee := Callee.value (Operand.func 20), args := #[Operand.tmp 86, Operand.tmp 88], argTypes := #[25, 3] }, type := 3, pos := "law.go:97", after := #[{ on := 39, ground := Ground.data }, { on := 41, ground := Ground.data }, { on := 38, ground := Ground.chain }, { on := 38, ground := Ground.guard }], guard := some (38, false) }) rfl (fun K hK => ?_) AllReadyH.nil
            go_simp
            refine (zoffset_any s.z s.le).mono ?_
            rintro e wz ⟨o, rfl, bb, ho, -⟩
            replace T := T.below bb T.lt
            replace U := U.below bb U.lt
            replace s := s.step bb
            clear bb dT0 dT1 dU0 dU1 lt c0 c1 c2 c3
            obtain ⟨lt, c0, c1, c2, c3⟩ := s.cells
            replace ho := ((ho ⟨⟨t1, t2⟩, qm0.out⟩).uniq hS ⟨_, hq.out.self hS, rfl⟩).symm
            simp only [offOf] at ho
            subst ho
            obtain ⟨dT0, dT1⟩ := T.both
            obtain ⟨dU0, dU1⟩ := U.both
            go_wp2_with fail
            refine hK.out _ _ ⟨s, T, U⟩ (fun _ => ?_)
            clear hK K
            try simp only [Act.put, List.setIfInBounds_toArray, List.set_cons_zero, List.set_cons_succ]
            refine wpAnyH_take (i := 45) (oi := { dst := some 92, op := Op.binOp BinOp.neq 3 (Operand.tmp 89) (Operand.tmp 91) 3, type := 4, pos := "law.go:97", after := #[{ on := 42, ground := Ground.data }, { on := 44, ground := Ground.data }, { on := 38, ground := Ground.guard }], guard := some (38, false) }) (v := ?_) rfl (by kernel_rfl) (by kernel_rfl) (by kernel_rfl) (fun _ _ _ h => h) (Or.inl ⟨by rfl, ?_⟩) (by trivial) ?_
            rotate_left
            (focus (intro w9 hSw; obtain ⟨s9, T9, U9⟩ := hSw; obtain ⟨lt, c0, c1, c2, c3⟩ := s9.cells; obtain ⟨fT0, fT1⟩ := T9.both; obtain ⟨fU0, fU1⟩ := U9.both; go_simp <;> with_reducible rfl))
            try simp only [Act.put, List.setIfInBounds_toArray, List.set_cons_zero, List.set_cons_succ]
            refine wpAnyH_take (i := 46) (oi := { dst := some 93, op := Op.pick (Operand.tmp 85) (Operand.const (Value.bool true)) (Operand.tmp 92), type := 4, pos := "law.go:97", after := #[{ on := 38, ground := Ground.data }, { on := 45, ground := Ground.data }, { on := 33, ground := Ground.guard }], guard := some (33, true) }) (v := ?_) rfl (by kernel_rfl) (by kernel_rfl) (by kernel_rfl) (fun _ _ _ h => h) (Or.inl ⟨by rfl, ?_⟩) (by trivial) ?_
            rotate_left
            (focus (intro w9 hSw; obtain ⟨s9, T9, U9⟩ := hSw; obtain ⟨lt, c0, c1, c2, c3⟩ := s9.cells; obtain ⟨fT0, fT1⟩ := T9.both; obtain ⟨fU0, fU1⟩ := U9.both; go_simp <;> with_reducible rfl))
            try simp only [Act.put, List.setIfInBounds_toArray, List.set_cons_zero, List.set_cons_succ]
            refine wpAnyH_take (i := 47) (oi := { dst := some 94, op := Op.move (Operand.tmp 93), type := 4, pos := "law.go:97", after := #[{ on := 46, ground := Ground.data }, { on := 42, ground := Ground.chain }, { on := 33, ground := Ground.guard }], guard := some (33, true) }) (v := ?_) rfl (by kernel_rfl) (by kernel_rfl) (by kernel_rfl) (fun _ _ _ h => h) (Or.inl ⟨by rfl, ?_⟩) (by trivial) ?_
            rotate_left
            (focus (intro w9 hSw; obtain ⟨s9, T9, U9⟩ := hSw; obtain ⟨lt, c0, c1, c2, c3⟩ := s9.cells; obtain ⟨fT0, fT1⟩ := T9.both; obtain ⟨fU0, fU1⟩ := U9.both; go_simp <;> with_reducible rfl))
            try simp only [Act.put, List.setIfInBounds_toArray, List.set_cons_zero, List.set_cons_succ]
            refine wpAnyH_take (i := 48) (oi := { dst := some 95, op := Op.load 25 (Operand.tmp 2), type := 25, pos := "law.go:97", after := #[{ on := 47, ground := Ground.guard }], guard := some (47, false) }) (v := ?_) rfl (by kernel_rfl) (by kernel_rfl) (by kernel_rfl) (fun _ _ _ h => h) (Or.inl ⟨by rfl, ?_⟩) (by trivial) ?_
            rotate_left
            (focus (intro w9 hSw; obtain ⟨s9, T9, U9⟩ := hSw; obtain ⟨lt, c0, c1, c2, c3⟩ := s9.cells; obtain ⟨fT0, fT1⟩ := T9.both; obtain ⟨fU0, fU1⟩ := U9.both; go_simp <;> with_reducible rfl))
            try simp only [Act.put, List.setIfInBounds_toArray, List.set_cons_zero, List.set_cons_succ]
            refine wpAnyH_take (i := 49) (oi := { dst := some 96, op := Op.fieldAddr 29 (Operand.tmp 7) 0, type := 0, pos := "law.go:97", after := #[{ on := 47, ground := Ground.guard }], guard := some (47, false) }) (v := ?_) rfl (by kernel_rfl) (by kernel_rfl) (by kernel_rfl) (fun _ _ _ h => h) (Or.inl ⟨by rfl, ?_⟩) (by trivial) ?_
            rotate_left
            (focus (intro w9 hSw; obtain ⟨s9, T9, U9⟩ := hSw; obtain ⟨lt, c0, c1, c2, c3⟩ := s9.cells; obtain ⟨fT0, fT1⟩ := T9.both; obtain ⟨fU0, fU1⟩ := U9.both; go_simp <;> with_reducible rfl))
            try simp only [Act.put, List.setIfInBounds_toArray, List.set_cons_zero, List.set_cons_succ]
            refine wpAnyH_take (i := 50) (oi := { dst := some 97, op := Op.load 3 (Operand.tmp 96), type := 3, pos := "law.go:97", after := #[{ on := 49, ground := Ground.data }, { on := 47, ground := Ground.guard }], guard := some (47, false) }) (v := ?_) rfl (by kernel_rfl) (by kernel_rfl) (by kernel_rfl) (fun _ _ _ h => h) (Or.inl ⟨by rfl, ?_⟩) (by trivial) ?_
            rotate_left
            (focus (intro w9 hSw; obtain ⟨s9, T9, U9⟩ := hSw; obtain ⟨lt, c0, c1, c2, c3⟩ := s9.cells; obtain ⟨fT0, fT1⟩ := T9.both; obtain ⟨fU0, fU1⟩ := U9.both; go_simp <;> with_reducible rfl))
            try simp only [Act.put, List.setIfInBounds_toArray, List.set_cons_zero, List.set_cons_succ]
            refine wpAnyH_take (i := 51) (oi := { dst := some 98, op := Op.binOp BinOp.sub 3 (Operand.tmp 97) (Operand.const (Value.int IntKind.i64 1)) 3, type := 3, pos := "law.go:97", after := #[{ on := 50, ground := Ground.data }, { on := 47, ground := Ground.guard }], guard := some (47, false) }) (v := ?_) rfl (by kernel_rfl) (by kernel_rfl) (by kernel_rfl) (fun _ _ _ h => h) (Or.inl ⟨by rfl, ?_⟩) (by trivial) ?_
            rotate_left
            (focus (intro w9 hSw; obtain ⟨s9, T9, U9⟩ := hSw; obtain ⟨lt, c0, c1, c2, c3⟩ := s9.cells; obtain ⟨fT0, fT1⟩ := T9.both; obtain ⟨fU0, fU1⟩ := U9.both; go_simp <;> with_reducible rfl))
            try simp only [Act.put, List.setIfInBounds_toArray, List.set_cons_zero, List.set_cons_succ]
            refine wpAnyH_take (i := 53) (oi := { dst := some 100, op := Op.move (Operand.tmp 9), type := 3, pos := "law.go:97", after := #[{ on := 47, ground := Ground.guard }], guard := some (47, false) }) (v := ?_) rfl (by kernel_rfl) (by kernel_rfl) (by kernel_rfl) (fun _ _ _ h => h) (Or.inl ⟨by rfl, ?_⟩) (by trivial) ?_
            rotate_left
            (focus (intro w9 hSw; obtain ⟨s9, T9, U9⟩ := hSw; obtain ⟨lt, c0, c1, c2, c3⟩ := s9.cells; obtain ⟨fT0, fT1⟩ := T9.both; obtain ⟨fU0, fU1⟩ := U9.both; go_simp <;> with_reducible rfl))
            try simp only [Act.put, List.setIfInBounds_toArray, List.set_cons_zero, List.set_cons_succ]
            refine wpAnyH_ready (rs := [52]) (by kernel_rfl) (by simp) ?_
            refine AllReadyH.cons (o := { dst := some 99, op := Op.call { callee := Callee.value (Operand.func 20), args := #[Operand.tmp 95, Operand.tmp 98], argTypes := #[25, 3] }, type := 3, pos := "law.go:97", after := #[{ on := 48, ground := Ground.data }, { on := 51, ground := Ground.data }, { on := 47, ground := Ground.chain }, { on := 47, ground := Ground.guard }], guard := some (47, false) }) rfl (fun K hK => ?_) AllReadyH.nil
            go_simp
            refine (zoffset_any s.z s.le).mono ?_
            rintro e wz ⟨o, rfl, bb, ho, -⟩
            replace T := T.below bb T.lt
            replace U := U.below bb U.lt
            replace s := s.step bb
            clear bb dT0 dT1 dU0 dU1 lt c0 c1 c2 c3
            obtain ⟨lt, c0, c1, c2, c3⟩ := s.cells
            replace ho := ((ho ⟨⟨by omega, by omega⟩, qm0.out⟩).uniq hS ⟨_, hr.out.carry hq.out (by omega) (by rintro x hx; injection hx with hx; subst hx; omega), rfl⟩).symm
            simp only [offOf] at ho
            subst ho
            obtain ⟨dT0, dT1⟩ := T.both
            obtain ⟨dU0, dU1⟩ := U.both
            go_wp2_with fail
            refine hK.out _ _ ⟨s, T, U⟩ (fun _ => ?_)
            clear hK K
            try simp only [Act.put, List.setIfInBounds_toArray, List.set_cons_zero, List.set_cons_succ]
            refine wpAnyH_take (i := 54) (oi := { dst := some 101, op := Op.binOp BinOp.neq 3 (Operand.tmp 99) (Operand.tmp 100) 3, type := 4, pos := "law.go:97", after := #[{ on := 52, ground := Ground.data }, { on := 53, ground := Ground.data }, { on := 47, ground := Ground.guard }], guard := some (47, false) }) (v := ?_) rfl (by kernel_rfl) (by kernel_rfl) (by kernel_rfl) (fun _ _ _ h => h) (Or.inl ⟨by rfl, ?_⟩) (by trivial) ?_
            rotate_left
            (focus (intro w9 hSw; obtain ⟨s9, T9, U9⟩ := hSw; obtain ⟨lt, c0, c1, c2, c3⟩ := s9.cells; obtain ⟨fT0, fT1⟩ := T9.both; obtain ⟨fU0, fU1⟩ := U9.both; go_simp <;> with_reducible rfl))
            try simp only [Act.put, List.setIfInBounds_toArray, List.set_cons_zero, List.set_cons_succ]
            refine wpAnyH_take (i := 55) (oi := { dst := some 102, op := Op.pick (Operand.tmp 94) (Operand.const (Value.bool true)) (Operand.tmp 101), type := 4, pos := "law.go:97", after := #[{ on := 47, ground := Ground.data }, { on := 54, ground := Ground.data }, { on := 33, ground := Ground.guard }], guard := some (33, true) }) (v := ?_) rfl (by kernel_rfl) (by kernel_rfl) (by kernel_rfl) (fun _ _ _ h => h) (Or.inl ⟨by rfl, ?_⟩) (by trivial) ?_
            rotate_left
            (focus (intro w9 hSw; obtain ⟨s9, T9, U9⟩ := hSw; obtain ⟨lt, c0, c1, c2, c3⟩ := s9.cells; obtain ⟨fT0, fT1⟩ := T9.both; obtain ⟨fU0, fU1⟩ := U9.both; go_simp <;> with_reducible rfl))
            try simp only [Act.put, List.setIfInBounds_toArray, List.set_cons_zero, List.set_cons_succ]
            refine wpAnyH_take (i := 56) (oi := { dst := some 103, op := Op.pick (Operand.tmp 80) (Operand.tmp 102) (Operand.const (Value.bool false)), type := 4, pos := "law.go:97", after := #[{ on := 33, ground := Ground.data }, { on := 55, ground := Ground.data }, { on := 31, ground := Ground.guard }], guard := some (31, false) }) (v := ?_) rfl (by kernel_rfl) (by kernel_rfl) (by kernel_rfl) (fun _ _ _ h => h) (Or.inl ⟨by rfl, ?_⟩) (by trivial) ?_
            rotate_left
            (focus (intro w9 hSw; obtain ⟨s9, T9, U9⟩ := hSw; obtain ⟨lt, c0, c1, c2, c3⟩ := s9.cells; obtain ⟨fT0, fT1⟩ := T9.both; obtain ⟨fU0, fU1⟩ := U9.both; go_simp <;> with_reducible rfl))
            try simp only [Act.put, List.setIfInBounds_toArray, List.set_cons_zero, List.set_cons_succ]
            refine wpAnyH_take (i := 57) (oi := { dst := some 104, op := Op.pick (Operand.tmp 78) (Operand.const (Value.bool true)) (Operand.tmp 103), type := 4, pos := "law.go:97", after := #[{ on := 31, ground := Ground.data }, { on := 56, ground := Ground.data }], guard := none }) (v := ?_) rfl (by kernel_rfl) (by kernel_rfl) (by kernel_rfl) (fun _ _ _ h => h) (Or.inl ⟨by rfl, ?_⟩) (by trivial) ?_
            rotate_left
            (focus (intro w9 hSw; obtain ⟨s9, T9, U9⟩ := hSw; obtain ⟨lt, c0, c1, c2, c3⟩ := s9.cells; obtain ⟨fT0, fT1⟩ := T9.both; obtain ⟨fU0, fU1⟩ := U9.both; go_simp <;> with_reducible rfl))
            try simp only [Act.put, List.setIfInBounds_toArray, List.set_cons_zero, List.set_cons_succ]
            refine wpAnyH_done (by kernel_rfl) ?_ _
            go_wp2_with fail
            refine (first_any _).mono ?_
            rintro e wz ⟨rfl, bb⟩
            replace T := T.below bb T.lt
            replace U := U.below bb U.lt
            replace s := s.step bb
            clear bb dT0 dT1 dU0 dU1 lt c0 c1 c2 c3
            obtain ⟨lt, c0, c1, c2, c3⟩ := s.cells
            obtain ⟨dT0, dT1⟩ := T.both
            obtain ⟨dU0, dU1⟩ := U.both
            go_wp2_with fail
            refine (local_any s.z s.le).mono ?_
            rintro e wz ⟨l, rfl, bb, hl, -⟩
            replace T := T.below bb T.lt
            replace U := U.below bb U.lt
            replace s := s.step bb
            clear bb dT0 dT1 dU0 dU1 lt c0 c1 c2 c3
            obtain ⟨lt, c0, c1, c2, c3⟩ := s.cells
            replace hl := (hl ⟨qt0.out, qm0.out⟩).uniq hS ⟨_, hr.out, rfl⟩
            simp only [offOf] at hl
            obtain rfl : l = u + bs := by omega
            clear hl
            obtain ⟨dT0, dT1⟩ := T.both
            obtain ⟨dU0, dU1⟩ := U.both
            go_wp2_with fail
            go_ret
            exact ⟨rfl, s.b⟩
        | some a =>
          simp only [shv]
          go_wp2_with fail
          obtain ⟨pT, hpT⟩ : ∃ pT, pT = wz.heap.size := ⟨_, rfl⟩
          have T := Two.new_ wz (a.at_) (a.off) wz.heap.size rfl
          replace s := s.alloc (.cells #[.int .i64 a.at_, .int .i64 a.off] 29)
          rw [← hpT] at T ⊢
          clear hpT
          generalize wz.alloc (.cells #[.int .i64 a.at_, .int .i64 a.off] 29) = wy at s T ⊢
          clear lt c0 c1 c2 c3
          obtain ⟨lt, c0, c1, c2, c3⟩ := s.cells
          obtain ⟨dT0, dT1⟩ := T.both
          refine (after_any s.z s.le).mono ?_
          rintro e wz ⟨q, rfl, bb, hq, -⟩
          replace T := T.below bb T.lt
          replace s := s.step bb
          clear bb dT0 dT1 lt c0 c1 c2 c3
          obtain ⟨lt, c0, c1, c2, c3⟩ := s.cells
          replace hq := Lib.hid (hq ⟨qt, qm⟩)
          obtain ⟨dT0, dT1⟩ := T.both
          cases q with
          | none =>
            simp only [shv]
            go_wp2_with fail
            clear dT0 dT1
            obtain ⟨pU, hpU⟩ : ∃ pU, pU = wz.heap.size := ⟨_, rfl⟩
            replace T := T.below ((Below.refl _ _).alloc (Nat.le_refl _) (.cells #[.int .i64 0, .int .i64 0] 29)) T.lt
            have U := Two.new_ wz (0) (0) wz.heap.size rfl
            replace s := s.alloc (.cells #[.int .i64 0, .int .i64 0] 29)
            rw [← hpU] at U ⊢
            clear hpU
            generalize wz.alloc (.cells #[.int .i64 0, .int .i64 0] 29) = wy at s U T ⊢
            clear lt c0 c1 c2 c3
            obtain ⟨lt, c0, c1, c2, c3⟩ := s.cells
            obtain ⟨dT0, dT1⟩ := T.both
            obtain ⟨dU0, dU1⟩ := U.both
            refine (zoffset_any s.z s.le).mono ?_
            rintro e wz ⟨o, rfl, bb, ho, -⟩
            replace T := T.below bb T.lt
            replace U := U.below bb U.lt
            replace s := s.step bb
            clear bb dT0 dT1 dU0 dU1 lt c0 c1 c2 c3
            obtain ⟨lt, c0, c1, c2, c3⟩ := s.cells
            replace ho := ((ho ⟨qt, qm⟩).uniq hS ⟨_, hr.out, rfl⟩).symm
            simp only [offOf] at ho
            subst ho
            obtain ⟨u1, u2⟩ := qt0.out
            obtain ⟨b1, b2⟩ := qb0.out
            obtain ⟨dT0, dT1⟩ := T.both
            obtain ⟨dU0, dU1⟩ := U.both
            go_wp2_with fail
            have a0 := hr.out.2.1
            obtain ⟨a1, a2⟩ := shift_at qm0.out.ok hr.out.1
            obtain ⟨a3, a4⟩ := hS.off _ hr.out.1
            have k1 : decide (u < a.at_) = false := decide_eq_false (by omega)
            have zw3 : IntKind.i64.wrap (u + a.off) = u + a.off := wi64 (by omega) (by omega)
            replace s := s.drew
            replace T := T.drew
            replace U := U.drew
            clear dT0 dT1 dU0 dU1 lt c0 c1 c2 c3
            obtain ⟨lt, c0, c1, c2, c3⟩ := s.cells
            obtain ⟨dT0, dT1⟩ := T.both
            obtain ⟨dU0, dU1⟩ := U.both
            refine wp_region_held_drew (S := fun w9 => St w w9 w.heap.size bs A c A' c' fr L Y ∧ Two w9 pT (a.at_) (a.off) ∧ Two w9 pU (0) (0)) (by kernel_rfl) ⟨s, T, U⟩ (fun _ => ?_)
            refine wpAnyH_take (i := 0) (oi := { dst := some 47, op := Op.move (Operand.tmp 6), type := 4, pos := "law.go:97", after := #[], guard := none }) (v := ?_) rfl (by kernel_rfl) (by kernel_rfl) (by kernel_rfl) (fun _ _ _ h => h) (Or.inl ⟨by rfl, ?_⟩) (by trivial) ?_
            rotate_left
            (focus (intro w9 hSw; obtain ⟨s9, T9, U9⟩ := hSw; obtain ⟨lt, c0, c1, c2, c3⟩ := s9.cells; obtain ⟨fT0, fT1⟩ := T9.both; obtain ⟨fU0, fU1⟩ := U9.both; go_simp <;> with_reducible rfl))
            try simp only [Act.put, List.setIfInBounds_toArray, List.set_cons_zero, List.set_cons_succ]
            refine wpAnyH_take (i := 1) (oi := { dst := some 48, op := Op.move (Operand.tmp 47), type := 4, pos := "law.go:97", after := #[{ on := 0, ground := Ground.data }], guard := none }) (v := ?_) rfl (by kernel_rfl) (by kernel_rfl) (by kernel_rfl) (fun _ _ _ h => h) (Or.inl ⟨by rfl, ?_⟩) (by trivial) ?_
            rotate_left
            (focus (intro w9 hSw; obtain ⟨s9, T9, U9⟩ := hSw; obtain ⟨lt, c0, c1, c2, c3⟩ := s9.cells; obtain ⟨fT0, fT1⟩ := T9.both; obtain ⟨fU0, fU1⟩ := U9.both; go_simp <;> with_reducible rfl))
            try simp only [Act.put, List.setIfInBounds_toArray, List.set_cons_zero, List.set_cons_succ]
            refine wpAnyH_take (i := 2) (oi := { dst := some 49, op := Op.fieldAddr 29 (Operand.tmp 5) 0, type := 0, pos := "law.go:97", after := #[{ on := 1, ground := Ground.guard }], guard := some (1, true) }) (v := ?_) rfl (by kernel_rfl) (by kernel_rfl) (by kernel_rfl) (fun _ _ _ h => h) (Or.inl ⟨by rfl, ?_⟩) (by trivial) ?_
            rotate_left
            (focus (intro w9 hSw; obtain ⟨s9, T9, U9⟩ := hSw; obtain ⟨lt, c0, c1, c2, c3⟩ := s9.cells; obtain ⟨fT0, fT1⟩ := T9.both; obtain ⟨fU0, fU1⟩ := U9.both; go_simp <;> with_reducible rfl))
            try simp only [Act.put, List.setIfInBounds_toArray, List.set_cons_zero, List.set_cons_succ]
            refine wpAnyH_take (i := 3) (oi := { dst := some 50, op := Op.load 3 (Operand.tmp 49), type := 3, pos := "law.go:97", after := #[{ on := 2, ground := Ground.data }, { on := 1, ground := Ground.guard }], guard := some (1, true) }) (v := ?_) rfl (by kernel_rfl) (by kernel_rfl) (by kernel_rfl) (fun _ _ _ h => h) (Or.inl ⟨by rfl, ?_⟩) (by trivial) ?_
            rotate_left
            (focus (intro w9 hSw; obtain ⟨s9, T9, U9⟩ := hSw; obtain ⟨lt, c0, c1, c2, c3⟩ := s9.cells; obtain ⟨fT0, fT1⟩ := T9.both; obtain ⟨fU0, fU1⟩ := U9.both; go_simp <;> with_reducible rfl))
            try simp only [Act.put, List.setIfInBounds_toArray, List.set_cons_zero, List.set_cons_succ]
            refine wpAnyH_take (i := 4) (oi := { dst := some 51, op := Op.move (Operand.tmp 1), type := 3, pos := "law.go:97", after := #[{ on := 1, ground := Ground.guard }], guard := some (1, true) }) (v := ?_) rfl (by kernel_rfl) (by kernel_rfl) (by kernel_rfl) (fun _ _ _ h => h) (Or.inl ⟨by rfl, ?_⟩) (by trivial) ?_
            rotate_left
            (focus (intro w9 hSw; obtain ⟨s9, T9, U9⟩ := hSw; obtain ⟨lt, c0, c1, c2, c3⟩ := s9.cells; obtain ⟨fT0, fT1⟩ := T9.both; obtain ⟨fU0, fU1⟩ := U9.both; go_simp <;> with_reducible rfl))
            try simp only [Act.put, List.setIfInBounds_toArray, List.set_cons_zero, List.set_cons_succ]
            refine wpAnyH_take (i := 5) (oi := { dst := some 52, op := Op.binOp BinOp.gtr 3 (Operand.tmp 50) (Operand.tmp 51) 3, type := 4, pos := "law.go:97", after := #[{ on := 3, ground := Ground.data }, { on := 4, ground := Ground.data }, { on := 1, ground := Ground.guard }], guard := some (1, true) }) (v := ?_) rfl (by kernel_rfl) (by kernel_rfl) (by kernel_rfl) (fun _ _ _ h => h) (Or.inl ⟨by rfl, ?_⟩) (by trivial) ?_
            rotate_left
            (focus (intro w9 hSw; obtain ⟨s9, T9, U9⟩ := hSw; obtain ⟨lt, c0, c1, c2, c3⟩ := s9.cells; obtain ⟨fT0, fT1⟩ := T9.both; obtain ⟨fU0, fU1⟩ := U9.both; go_simp <;> with_reducible rfl))
            try simp only [Act.put, List.setIfInBounds_toArray, List.set_cons_zero, List.set_cons_succ]
            refine wpAnyH_take (i := 6) (oi := { dst := some 53, op := Op.move (Operand.tmp 52), type := 4, pos := "law.go:97", after := #[{ on := 5, ground := Ground.data }, { on := 1, ground := Ground.chain }, { on := 1, ground := Ground.guard }], guard := some (1, true) }) (v := ?_) rfl (by kernel_rfl) (by kernel_rfl) (by kernel_rfl) (fun _ _ _ h => h) (Or.inl ⟨by rfl, ?_⟩) (by trivial) ?_
            rotate_left
            (focus (intro w9 hSw; obtain ⟨s9, T9, U9⟩ := hSw; obtain ⟨lt, c0, c1, c2, c3⟩ := s9.cells; obtain ⟨fT0, fT1⟩ := T9.both; obtain ⟨fU0, fU1⟩ := U9.both; go_simp <;> with_reducible rfl))
            try simp only [Act.put, List.setIfInBounds_toArray, List.set_cons_zero, List.set_cons_succ]
            refine wpAnyH_take (i := 7) (oi := { dst := some 54, op := Op.fieldAddr 29 (Operand.tmp 5) 1, type := 0, pos := "law.go:97", after := #[{ on := 6, ground := Ground.guard }], guard := some (6, false) }) (v := ?_) rfl (by kernel_rfl) (by kernel_rfl) (by kernel_rfl) (fun _ _ _ h => h) (Or.inl ⟨by rfl, ?_⟩) (by trivial) ?_
            rotate_left
            (focus (intro w9 hSw; obtain ⟨s9, T9, U9⟩ := hSw; obtain ⟨lt, c0, c1, c2, c3⟩ := s9.cells; obtain ⟨fT0, fT1⟩ := T9.both; obtain ⟨fU0, fU1⟩ := U9.both; go_simp <;> with_reducible rfl))
            try simp only [Act.put, List.setIfInBounds_toArray, List.set_cons_zero, List.set_cons_succ]
            refine wpAnyH_take (i := 8) (oi := { dst := some 55, op := Op.load 3 (Operand.tmp 54), type := 3, pos := "law.go:97", after := #[{ on := 7, ground := Ground.data }, { on := 6, ground := Ground.guard }], guard := some (6, false) }) (v := ?_) rfl (by kernel_rfl) (by kernel_rfl) (by kernel_rfl) (fun _ _ _ h => h) (Or.inl ⟨by rfl, ?_⟩) (by trivial) ?_
            rotate_left
            (focus (intro w9 hSw; obtain ⟨s9, T9, U9⟩ := hSw; obtain ⟨lt, c0, c1, c2, c3⟩ := s9.cells; obtain ⟨fT0, fT1⟩ := T9.both; obtain ⟨fU0, fU1⟩ := U9.both; go_simp <;> with_reducible rfl))
            try simp only [Act.put, List.setIfInBounds_toArray, List.set_cons_zero, List.set_cons_succ]
            refine wpAnyH_take (i := 9) (oi := { dst := some 56, op := Op.move (Operand.tmp 9), type := 3, pos := "law.go:97", after := #[{ on := 6, ground := Ground.guard }], guard := some (6, false) }) (v := ?_) rfl (by kernel_rfl) (by kernel_rfl) (by kernel_rfl) (fun _ _ _ h => h) (Or.inl ⟨by rfl, ?_⟩) (by trivial) ?_
            rotate_left
            (focus (intro w9 hSw; obtain ⟨s9, T9, U9⟩ := hSw; obtain ⟨lt, c0, c1, c2, c3⟩ := s9.cells; obtain ⟨fT0, fT1⟩ := T9.both; obtain ⟨fU0, fU1⟩ := U9.both; go_simp <;> with_reducible rfl))
            try simp only [Act.put, List.setIfInBounds_toArray, List.set_cons_zero, List.set_cons_succ]
            refine wpAnyH_take (i := 10) (oi := { dst := some 57, op := Op.binOp BinOp.neq 3 (Operand.tmp 55) (Operand.tmp 56) 3, type := 4, pos := "law.go:97", after := #[{ on := 8, ground := Ground.data }, { on := 9, ground := Ground.data }, { on := 6, ground := Ground.guard }], guard := some (6, false) }) (v := ?_) rfl (by kernel_rfl) (by kernel_rfl) (by kernel_rfl) (fun _ _ _ h => h) (Or.inl ⟨by rfl, ?_⟩) (by trivial) ?_
            rotate_left
            (focus (intro w9 hSw; obtain ⟨s9, T9, U9⟩ := hSw; obtain ⟨lt, c0, c1, c2, c3⟩ := s9.cells; obtain ⟨fT0, fT1⟩ := T9.both; obtain ⟨fU0, fU1⟩ := U9.both; go_simp <;> with_reducible rfl))
            try simp only [Act.put, List.setIfInBounds_toArray, List.set_cons_zero, List.set_cons_succ]
            refine wpAnyH_take (i := 11) (oi := { dst := some 58, op := Op.pick (Operand.tmp 53) (Operand.const (Value.bool true)) (Operand.tmp 57), type := 4, pos := "law.go:97", after := #[{ on := 6, ground := Ground.data }, { on := 10, ground := Ground.data }, { on := 1, ground := Ground.guard }], guard := some (1, true) }) (v := ?_) rfl (by kernel_rfl) (by kernel_rfl) (by kernel_rfl) (fun _ _ _ h => h) (Or.inl ⟨by rfl, ?_⟩) (by trivial) ?_
            rotate_left
            (focus (intro w9 hSw; obtain ⟨s9, T9, U9⟩ := hSw; obtain ⟨lt, c0, c1, c2, c3⟩ := s9.cells; obtain ⟨fT0, fT1⟩ := T9.both; obtain ⟨fU0, fU1⟩ := U9.both; go_simp <;> with_reducible rfl))
            try simp only [Act.put, List.setIfInBounds_toArray, List.set_cons_zero, List.set_cons_succ]
            refine wpAnyH_take (i := 12) (oi := { dst := some 59, op := Op.move (Operand.tmp 58), type := 4, pos := "law.go:97", after := #[{ on := 11, ground := Ground.data }, { on := 6, ground := Ground.chain }, { on := 1, ground := Ground.guard }], guard := some (1, true) }) (v := ?_) rfl (by kernel_rfl) (by kernel_rfl) (by kernel_rfl) (fun _ _ _ h => h) (Or.inl ⟨by rfl, ?_⟩) (by trivial) ?_
            rotate_left
            (focus (intro w9 hSw; obtain ⟨s9, T9, U9⟩ := hSw; obtain ⟨lt, c0, c1, c2, c3⟩ := s9.cells; obtain ⟨fT0, fT1⟩ := T9.both; obtain ⟨fU0, fU1⟩ := U9.both; go_simp <;> with_reducible rfl))
            try simp only [Act.put, List.setIfInBounds_toArray, List.set_cons_zero, List.set_cons_succ]
            refine wpAnyH_take (i := 13) (oi := { dst := some 60, op := Op.load 25 (Operand.tmp 2), type := 25, pos := "law.go:97", after := #[{ on := 12, ground := Ground.guard }], guard := some (12, false) }) (v := ?_) rfl (by kernel_rfl) (by kernel_rfl) (by kernel_rfl) (fun _ _ _ h => h) (Or.inl ⟨by rfl, ?_⟩) (by trivial) ?_
            rotate_left
            (focus (intro w9 hSw; obtain ⟨s9, T9, U9⟩ := hSw; obtain ⟨lt, c0, c1, c2, c3⟩ := s9.cells; obtain ⟨fT0, fT1⟩ := T9.both; obtain ⟨fU0, fU1⟩ := U9.both; go_simp <;> with_reducible rfl))
            try simp only [Act.put, List.setIfInBounds_toArray, List.set_cons_zero, List.set_cons_succ]
            refine wpAnyH_take (i := 14) (oi := { dst := some 61, op := Op.fieldAddr 29 (Operand.tmp 5) 0, type := 0, pos := "law.go:97", after := #[{ on := 12, ground := Ground.guard }], guard := some (12, false) }) (v := ?_) rfl (by kernel_rfl) (by kernel_rfl) (by kernel_rfl) (fun _ _ _ h => h) (Or.inl ⟨by rfl, ?_⟩) (by trivial) ?_
            rotate_left
            (focus (intro w9 hSw; obtain ⟨s9, T9, U9⟩ := hSw; obtain ⟨lt, c0, c1, c2, c3⟩ := s9.cells; obtain ⟨fT0, fT1⟩ := T9.both; obtain ⟨fU0, fU1⟩ := U9.both; go_simp <;> with_reducible rfl))
            try simp only [Act.put, List.setIfInBounds_toArray, List.set_cons_zero, List.set_cons_succ]
            refine wpAnyH_take (i := 15) (oi := { dst := some 62, op := Op.load 3 (Operand.tmp 61), type := 3, pos := "law.go:97", after := #[{ on := 14, ground := Ground.data }, { on := 12, ground := Ground.guard }], guard := some (12, false) }) (v := ?_) rfl (by kernel_rfl) (by kernel_rfl) (by kernel_rfl) (fun _ _ _ h => h) (Or.inl ⟨by rfl, ?_⟩) (by trivial) ?_
            rotate_left
            (focus (intro w9 hSw; obtain ⟨s9, T9, U9⟩ := hSw; obtain ⟨lt, c0, c1, c2, c3⟩ := s9.cells; obtain ⟨fT0, fT1⟩ := T9.both; obtain ⟨fU0, fU1⟩ := U9.both; go_simp <;> with_reducible rfl))
            try simp only [Act.put, List.setIfInBounds_toArray, List.set_cons_zero, List.set_cons_succ]
            refine wpAnyH_take (i := 17) (oi := { dst := some 64, op := Op.move (Operand.tmp 9), type := 3, pos := "law.go:97", after := #[{ on := 12, ground := Ground.guard }], guard := some (12, false) }) (v := ?_) rfl (by kernel_rfl) (by kernel_rfl) (by kernel_rfl) (fun _ _ _ h => h) (Or.inl ⟨by rfl, ?_⟩) (by trivial) ?_
            rotate_left
            (focus (intro w9 hSw; obtain ⟨s9, T9, U9⟩ := hSw; obtain ⟨lt, c0, c1, c2, c3⟩ := s9.cells; obtain ⟨fT0, fT1⟩ := T9.both; obtain ⟨fU0, fU1⟩ := U9.both; go_simp <;> with_reducible rfl))
            try simp only [Act.put, List.setIfInBounds_toArray, List.set_cons_zero, List.set_cons_succ]
            refine wpAnyH_ready (rs := [16]) (by kernel_rfl) (by simp) ?_
            refine AllReadyH.cons (o := { dst := some 63, op := Op.call { callee := Callee.value (Operand.func 20), args := #[Operand.tmp 60, Operand.tmp 62], argTypes := #[25, 3] }, type := 3, pos := "law.go:97", after := #[{ on := 13, ground := Ground.data }, { on := 15, ground := Ground.data }, { on := 12, ground := Ground.chain }, { on := 12, ground := Ground.guard }], guard := some (12, false) }) rfl (fun K hK => ?_) AllReadyH.nil
            go_simp
            refine (zoffset_any s.z s.le).mono ?_
            rintro e wz ⟨o, rfl, bb, ho, -⟩
            replace T := T.below bb T.lt
            replace U := U.below bb U.lt
            replace s := s.step bb
            clear bb dT0 dT1 dU0 dU1 lt c0 c1 c2 c3
            obtain ⟨lt, c0, c1, c2, c3⟩ := s.cells
            replace ho := ((ho ⟨⟨a1, a2⟩, qm0.out⟩).uniq hS ⟨_, hr.out.self, rfl⟩).symm
            simp only [offOf] at ho
            subst ho
            obtain ⟨dT0, dT1⟩ := T.both
            obtain ⟨dU0, dU1⟩ := U.both
            go_wp2_with fail
            refine hK.out _ _ ⟨s, T, U⟩ (fun _ => ?_)
            clear hK K
            try simp only [Act.put, List.setIfInBounds_toArray, List.set_cons_zero, List.set_cons_succ]
            refine wpAnyH_take (i := 18) (oi := { dst := some 65, op := Op.binOp BinOp.neq 3 (Operand.tmp 63) (Operand.tmp 64) 3, type := 4, pos := "law.go:97", after := #[{ on := 16, ground := Ground.data }, { on := 17, ground := Ground.data }, { on := 12, ground := Ground.guard }], guard := some (12, false) }) (v := ?_) rfl (by kernel_rfl) (by kernel_rfl) (by kernel_rfl) (fun _ _ _ h => h) (Or.inl ⟨by rfl, ?_⟩) (by trivial) ?_
            rotate_left
            (focus (intro w9 hSw; obtain ⟨s9, T9, U9⟩ := hSw; obtain ⟨lt, c0, c1, c2, c3⟩ := s9.cells; obtain ⟨fT0, fT1⟩ := T9.both; obtain ⟨fU0, fU1⟩ := U9.both; go_simp <;> with_reducible rfl))
            try simp only [Act.put, List.setIfInBounds_toArray, List.set_cons_zero, List.set_cons_succ]
            refine wpAnyH_take (i := 19) (oi := { dst := some 66, op := Op.pick (Operand.tmp 59) (Operand.const (Value.bool true)) (Operand.tmp 65), type := 4, pos := "law.go:97", after := #[{ on := 12, ground := Ground.data }, { on := 18, ground := Ground.data }, { on := 1, ground := Ground.guard }], guard := some (1, true) }) (v := ?_) rfl (by kernel_rfl) (by kernel_rfl) (by kernel_rfl) (fun _ _ _ h => h) (Or.inl ⟨by rfl, ?_⟩) (by trivial) ?_
            rotate_left
            (focus (intro w9 hSw; obtain ⟨s9, T9, U9⟩ := hSw; obtain ⟨lt, c0, c1, c2, c3⟩ := s9.cells; obtain ⟨fT0, fT1⟩ := T9.both; obtain ⟨fU0, fU1⟩ := U9.both; go_simp <;> with_reducible rfl))
            try simp only [Act.put, List.setIfInBounds_toArray, List.set_cons_zero, List.set_cons_succ]
            refine wpAnyH_take (i := 20) (oi := { dst := some 67, op := Op.pick (Operand.tmp 48) (Operand.tmp 66) (Operand.const (Value.bool false)), type := 4, pos := "law.go:97", after := #[{ on := 1, ground := Ground.data }, { on := 19, ground := Ground.data }], guard := none }) (v := ?_) rfl (by kernel_rfl) (by kernel_rfl) (by kernel_rfl) (fun _ _ _ h => h) (Or.inl ⟨by rfl, ?_⟩) (by trivial) ?_
            rotate_left
            (focus (intro w9 hSw; obtain ⟨s9, T9, U9⟩ := hSw; obtain ⟨lt, c0, c1, c2, c3⟩ := s9.cells; obtain ⟨fT0, fT1⟩ := T9.both; obtain ⟨fU0, fU1⟩ := U9.both; go_simp <;> with_reducible rfl))
            try simp only [Act.put, List.setIfInBounds_toArray, List.set_cons_zero, List.set_cons_succ]
            refine wpAnyH_take (i := 21) (oi := { dst := some 68, op := Op.move (Operand.tmp 67), type := 4, pos := "law.go:97", after := #[{ on := 20, ground := Ground.data }, { on := 16, ground := Ground.chain }], guard := none }) (v := ?_) rfl (by kernel_rfl) (by kernel_rfl) (by kernel_rfl) (fun _ _ _ h => h) (Or.inl ⟨by rfl, ?_⟩) (by trivial) ?_
            rotate_left
            (focus (intro w9 hSw; obtain ⟨s9, T9, U9⟩ := hSw; obtain ⟨lt, c0, c1, c2, c3⟩ := s9.cells; obtain ⟨fT0, fT1⟩ := T9.both; obtain ⟨fU0, fU1⟩ := U9.both; go_simp <;> with_reducible rfl))
            try simp only [Act.put, List.setIfInBounds_toArray, List.set_cons_zero, List.set_cons_succ]
            refine wpAnyH_take (i := 22) (oi := { dst := some 69, op := Op.move (Operand.tmp 6), type := 4, pos := "law.go:97", after := #[{ on := 21, ground := Ground.guard }], guard := some (21, false) }) (v := ?_) rfl (by kernel_rfl) (by kernel_rfl) (by kernel_rfl) (fun _ _ _ h => h) (Or.inl ⟨by rfl, ?_⟩) (by trivial) ?_
            rotate_left
            (focus (intro w9 hSw; obtain ⟨s9, T9, U9⟩ := hSw; obtain ⟨lt, c0, c1, c2, c3⟩ := s9.cells; obtain ⟨fT0, fT1⟩ := T9.both; obtain ⟨fU0, fU1⟩ := U9.both; go_simp <;> with_reducible rfl))
            try simp only [Act.put, List.setIfInBounds_toArray, List.set_cons_zero, List.set_cons_succ]
            refine wpAnyH_take (i := 23) (oi := { dst := some 70, op := Op.unOp UnOp.not 4 (Operand.tmp 69), type := 4, pos := "law.go:97", after := #[{ on := 22, ground := Ground.data }, { on := 21, ground := Ground.guard }], guard := some (21, false) }) (v := ?_) rfl (by kernel_rfl) (by kernel_rfl) (by kernel_rfl) (fun _ _ _ h => h) (Or.inl ⟨by rfl, ?_⟩) (by trivial) ?_
            rotate_left
            (focus (intro w9 hSw; obtain ⟨s9, T9, U9⟩ := hSw; obtain ⟨lt, c0, c1, c2, c3⟩ := s9.cells; obtain ⟨fT0, fT1⟩ := T9.both; obtain ⟨fU0, fU1⟩ := U9.both; go_simp <;> with_reducible rfl))
            try simp only [Act.put, List.setIfInBounds_toArray, List.set_cons_zero, List.set_cons_succ]
            refine wpAnyH_take (i := 24) (oi := { dst := some 71, op := Op.move (Operand.tmp 70), type := 4, pos := "law.go:97", after := #[{ on := 23, ground := Ground.data }, { on := 21, ground := Ground.chain }, { on := 21, ground := Ground.guard }], guard := some (21, false) }) (v := ?_) rfl (by kernel_rfl) (by kernel_rfl) (by kernel_rfl) (fun _ _ _ h => h) (Or.inl ⟨by rfl, ?_⟩) (by trivial) ?_
            rotate_left
            (focus (intro w9 hSw; obtain ⟨s9, T9, U9⟩ := hSw; obtain ⟨lt, c0, c1, c2, c3⟩ := s9.cells; obtain ⟨fT0, fT1⟩ := T9.both; obtain ⟨fU0, fU1⟩ := U9.both; go_simp <;> with_reducible rfl))
            try simp only [Act.put, List.setIfInBounds_toArray, List.set_cons_zero, List.set_cons_succ]
            refine wpAnyH_take (i := 25) (oi := { dst := some 72, op := Op.move (Operand.tmp 9), type := 3, pos := "law.go:97", after := #[{ on := 24, ground := Ground.guard }], guard := some (24, true) }) (v := undef) rfl (by kernel_rfl) (by kernel_rfl) (by kernel_rfl) (fun _ _ _ h => h) (Or.inr ⟨by rfl, rfl⟩) (by trivial) ?_
            try simp only [Act.put, List.setIfInBounds_toArray, List.set_cons_zero, List.set_cons_succ]
            refine wpAnyH_take (i := 26) (oi := { dst := some 73, op := Op.fieldAddr 25 (Operand.tmp 2) 0, type := 0, pos := "law.go:97", after := #[{ on := 24, ground := Ground.guard }], guard := some (24, true) }) (v := undef) rfl (by kernel_rfl) (by kernel_rfl) (by kernel_rfl) (fun _ _ _ h => h) (Or.inr ⟨by rfl, rfl⟩) (by trivial) ?_
            try simp only [Act.put, List.setIfInBounds_toArray, List.set_cons_zero, List.set_cons_succ]
            refine wpAnyH_take (i := 27) (oi := { dst := some 74, op := Op.load 3 (Operand.tmp 73), type := 3, pos := "law.go:97", after := #[{ on := 26, ground := Ground.data }, { on := 24, ground := Ground.guard }], guard := some (24, true) }) (v := undef) rfl (by kernel_rfl) (by kernel_rfl) (by kernel_rfl) (fun _ _ _ h => h) (Or.inr ⟨by rfl, rfl⟩) (by trivial) ?_
            try simp only [Act.put, List.setIfInBounds_toArray, List.set_cons_zero, List.set_cons_succ]
            refine wpAnyH_take (i := 28) (oi := { dst := some 75, op := Op.binOp BinOp.neq 3 (Operand.tmp 72) (Operand.tmp 74) 3, type := 4, pos := "law.go:97", after := #[{ on := 25, ground := Ground.data }, { on := 27, ground := Ground.data }, { on := 24, ground := Ground.guard }], guard := some (24, true) }) (v := undef) rfl (by kernel_rfl) (by kernel_rfl) (by kernel_rfl) (fun _ _ _ h => h) (Or.inr ⟨by rfl, rfl⟩) (by trivial) ?_
            try simp only [Act.put, List.setIfInBounds_toArray, List.set_cons_zero, List.set_cons_succ]
            refine wpAnyH_take (i := 29) (oi := { dst := some 76, op := Op.pick (Operand.tmp 71) (Operand.tmp 75) (Operand.const (Value.bool false)), type := 4, pos := "law.go:97", after := #[{ on := 24, ground := Ground.data }, { on := 28, ground := Ground.data }, { on := 21, ground := Ground.guard }], guard := some (21, false) }) (v := ?_) rfl (by kernel_rfl) (by kernel_rfl) (by kernel_rfl) (fun _ _ _ h => h) (Or.inl ⟨by rfl, ?_⟩) (by trivial) ?_
            rotate_left
            (focus (intro w9 hSw; obtain ⟨s9, T9, U9⟩ := hSw; obtain ⟨lt, c0, c1, c2, c3⟩ := s9.cells; obtain ⟨fT0, fT1⟩ := T9.both; obtain ⟨fU0, fU1⟩ := U9.both; go_simp <;> with_reducible rfl))
            try simp only [Act.put, List.setIfInBounds_toArray, List.set_cons_zero, List.set_cons_succ]
            refine wpAnyH_take (i := 30) (oi := { dst := some 77, op := Op.pick (Operand.tmp 68) (Operand.const (Value.bool true)) (Operand.tmp 76), type := 4, pos := "law.go:97", after := #[{ on := 21, ground := Ground.data }, { on := 29, ground := Ground.data }], guard := none }) (v := ?_) rfl (by kernel_rfl) (by kernel_rfl) (by kernel_rfl) (fun _ _ _ h => h) (Or.inl ⟨by rfl, ?_⟩) (by trivial) ?_
            rotate_left
            (focus (intro w9 hSw; obtain ⟨s9, T9, U9⟩ := hSw; obtain ⟨lt, c0, c1, c2, c3⟩ := s9.cells; obtain ⟨fT0, fT1⟩ := T9.both; obtain ⟨fU0, fU1⟩ := U9.both; go_simp <;> with_reducible rfl))
            try simp only [Act.put, List.setIfInBounds_toArray, List.set_cons_zero, List.set_cons_succ]
            refine wpAnyH_take (i := 31) (oi := { dst := some 78, op := Op.move (Operand.tmp 77), type := 4, pos := "law.go:97", after := #[{ on := 30, ground := Ground.data }, { on := 24, ground := Ground.chain }], guard := none }) (v := ?_) rfl (by kernel_rfl) (by kernel_rfl) (by kernel_rfl) (fun _ _ _ h => h) (Or.inl ⟨by rfl, ?_⟩) (by trivial) ?_
            rotate_left
            (focus (intro w9 hSw; obtain ⟨s9, T9, U9⟩ := hSw; obtain ⟨lt, c0, c1, c2, c3⟩ := s9.cells; obtain ⟨fT0, fT1⟩ := T9.both; obtain ⟨fU0, fU1⟩ := U9.both; go_simp <;> with_reducible rfl))
            try simp only [Act.put, List.setIfInBounds_toArray, List.set_cons_zero, List.set_cons_succ]
            refine wpAnyH_take (i := 32) (oi := { dst := some 79, op := Op.move (Operand.tmp 8), type := 4, pos := "law.go:97", after := #[{ on := 31, ground := Ground.guard }], guard := some (31, false) }) (v := ?_) rfl (by kernel_rfl) (by kernel_rfl) (by kernel_rfl) (fun _ _ _ h => h) (Or.inl ⟨by rfl, ?_⟩) (by trivial) ?_
            rotate_left
            (focus (intro w9 hSw; obtain ⟨s9, T9, U9⟩ := hSw; obtain ⟨lt, c0, c1, c2, c3⟩ := s9.cells; obtain ⟨fT0, fT1⟩ := T9.both; obtain ⟨fU0, fU1⟩ := U9.both; go_simp <;> with_reducible rfl))
            try simp only [Act.put, List.setIfInBounds_toArray, List.set_cons_zero, List.set_cons_succ]
            refine wpAnyH_take (i := 33) (oi := { dst := some 80, op := Op.move (Operand.tmp 79), type := 4, pos := "law.go:97", after := #[{ on := 32, ground := Ground.data }, { on := 31, ground := Ground.chain }, { on := 31, ground := Ground.guard }], guard := some (31, false) }) (v := ?_) rfl (by kernel_rfl) (by kernel_rfl) (by kernel_rfl) (fun _ _ _ h => h) (Or.inl ⟨by rfl, ?_⟩) (by trivial) ?_
            rotate_left
            (focus (intro w9 hSw; obtain ⟨s9, T9, U9⟩ := hSw; obtain ⟨lt, c0, c1, c2, c3⟩ := s9.cells; obtain ⟨fT0, fT1⟩ := T9.both; obtain ⟨fU0, fU1⟩ := U9.both; go_simp <;> with_reducible rfl))
            try simp only [Act.put, List.setIfInBounds_toArray, List.set_cons_zero, List.set_cons_succ]
            refine wpAnyH_take (i := 34) (oi := { dst := some 81, op := Op.fieldAddr 29 (Operand.tmp 7) 0, type := 0, pos := "law.go:97", after := #[{ on := 33, ground := Ground.guard }], guard := some (33, true) }) (v := undef) rfl (by kernel_rfl) (by kernel_rfl) (by kernel_rfl) (fun _ _ _ h => h) (Or.inr ⟨by rfl, rfl⟩) (by trivial) ?_
            try simp only [Act.put, List.setIfInBounds_toArray, List.set_cons_zero, List.set_cons_succ]
            refine wpAnyH_take (i := 35) (oi := { dst := some 82, op := Op.load 3 (Operand.tmp 81), type := 3, pos := "law.go:97", after := #[{ on := 34, ground := Ground.data }, { on := 33, ground := Ground.guard }], guard := some (33, true) }) (v := undef) rfl (by kernel_rfl) (by kernel_rfl) (by kernel_rfl) (fun _ _ _ h => h) (Or.inr ⟨by rfl, rfl⟩) (by trivial) ?_
            try simp only [Act.put, List.setIfInBounds_toArray, List.set_cons_zero, List.set_cons_succ]
            refine wpAnyH_take (i := 36) (oi := { dst := some 83, op := Op.move (Operand.tmp 1), type := 3, pos := "law.go:97", after := #[{ on := 33, ground := Ground.guard }], guard := some (33, true) }) (v := undef) rfl (by kernel_rfl) (by kernel_rfl) (by kernel_rfl) (fun _ _ _ h => h) (Or.inr ⟨by rfl, rfl⟩) (by trivial) ?_
            try simp only [Act.put, List.setIfInBounds_toArray, List.set_cons_zero, List.set_cons_succ]
            refine wpAnyH_take (i := 37) (oi := { dst := some 84, op := Op.binOp BinOp.leq 3 (Operand.tmp 82) (Operand.tmp 83) 3, type := 4, pos := "law.go:97", after := #[{ on := 35, ground := Ground.data }, { on := 36, ground := Ground.data }, { on := 33, ground := Ground.guard }], guard := some (33, true) }) (v := undef) rfl (by kernel_rfl) (by kernel_rfl) (by kernel_rfl) (fun _ _ _ h => h) (Or.inr ⟨by rfl, rfl⟩) (by trivial) ?_
            try simp only [Act.put, List.setIfInBounds_toArray, List.set_cons_zero, List.set_cons_succ]
            refine wpAnyH_take (i := 38) (oi := { dst := some 85, op := Op.move (Operand.tmp 84), type := 4, pos := "law.go:97", after := #[{ on := 37, ground := Ground.data }, { on := 33, ground := Ground.chain }, { on := 33, ground := Ground.guard }], guard := some (33, true) }) (v := undef) rfl (by kernel_rfl) (by kernel_rfl) (by kernel_rfl) (fun _ _ _ h => h) (Or.inr ⟨by rfl, rfl⟩) (by trivial) ?_
            try simp only [Act.put, List.setIfInBounds_toArray, List.set_cons_zero, List.set_cons_succ]
            refine wpAnyH_take (i := 39) (oi := { dst := some 86, op := Op.load 25 (Operand.tmp 2), type := 25, pos := "law.go:97", after := #[{ on := 38, ground := Ground.guard }], guard := some (38, false) }) (v := undef) rfl (by kernel_rfl) (by kernel_rfl) (by kernel_rfl) (fun _ _ _ h => h) (Or.inr ⟨by rfl, rfl⟩) (by trivial) ?_
            try simp only [Act.put, List.setIfInBounds_toArray, List.set_cons_zero, List.set_cons_succ]
            refine wpAnyH_take (i := 40) (oi := { dst := some 87, op := Op.fieldAddr 29 (Operand.tmp 7) 0, type := 0, pos := "law.go:97", after := #[{ on := 38, ground := Ground.guard }], guard := some (38, false) }) (v := undef) rfl (by kernel_rfl) (by kernel_rfl) (by kernel_rfl) (fun _ _ _ h => h) (Or.inr ⟨by rfl, rfl⟩) (by trivial) ?_
            try simp only [Act.put, List.setIfInBounds_toArray, List.set_cons_zero, List.set_cons_succ]
            refine wpAnyH_take (i := 41) (oi := { dst := some 88, op := Op.load 3 (Operand.tmp 87), type := 3, pos := "law.go:97", after := #[{ on := 40, ground := Ground.data }, { on := 38, ground := Ground.guard }], guard := some (38, false) }) (v := undef) rfl (by kernel_rfl) (by kernel_rfl) (by kernel_rfl) (fun _ _ _ h => h) (Or.inr ⟨by rfl, rfl⟩) (by trivial) ?_
            try simp only [Act.put, List.setIfInBounds_toArray, List.set_cons_zero, List.set_cons_succ]
            refine wpAnyH_take (i := 42) (oi := { dst := some 89, op := Op.call { callee := Callee.value (Operand.func 20), args := #[Operand.tmp 86, Operand.tmp 88], argTypes := #[25, 3] }, type := 3, pos := "law.go:97", after := #[{ on := 39, ground := Ground.data }, { on := 41, ground := Ground.data }, { on := 38, ground := Ground.chain }, { on := 38, ground := Ground.guard }], guard := some (38, false) }) (v := undef) rfl (by kernel_rfl) (by kernel_rfl) (by kernel_rfl) (fun _ _ _ h => h) (Or.inr ⟨by rfl, rfl⟩) (by trivial) ?_
            try simp only [Act.put, List.setIfInBounds_toArray, List.set_cons_zero, List.set_cons_succ]
            refine wpAnyH_take (i := 43) (oi := { dst := some 90, op := Op.fieldAddr 29 (Operand.tmp 7) 1, type := 0, pos := "law.go:97", after := #[{ on := 38, ground := Ground.guard }], guard := some (38, false) }) (v := undef) rfl (by kernel_rfl) (by kernel_rfl) (by kernel_rfl) (fun _ _ _ h => h) (Or.inr ⟨by rfl, rfl⟩) (by trivial) ?_
            try simp only [Act.put, List.setIfInBounds_toArray, List.set_cons_zero, List.set_cons_succ]
            refine wpAnyH_take (i := 44) (oi := { dst := some 91, op := Op.load 3 (Operand.tmp 90), type := 3, pos := "law.go:97", after := #[{ on := 43, ground := Ground.data }, { on := 38, ground := Ground.guard }], guard := some (38, false) }) (v := undef) rfl (by kernel_rfl) (by kernel_rfl) (by kernel_rfl) (fun _ _ _ h => h) (Or.inr ⟨by rfl, rfl⟩) (by trivial) ?_
            try simp only [Act.put, List.setIfInBounds_toArray, List.set_cons_zero, List.set_cons_succ]
            refine wpAnyH_take (i := 45) (oi := { dst := some 92, op := Op.binOp BinOp.neq 3 (Operand.tmp 89) (Operand.tmp 91) 3, type := 4, pos := "law.go:97", after := #[{ on := 42, ground := Ground.data }, { on := 44, ground := Ground.data }, { on := 38, ground := Ground.guard }], guard := some (38, false) }) (v := undef) rfl (by kernel_rfl) (by kernel_rfl) (by kernel_rfl) (fun _ _ _ h => h) (Or.inr ⟨by rfl, rfl⟩) (by trivial) ?_
            try simp only [Act.put, List.setIfInBounds_toArray, List.set_cons_zero, List.set_cons_succ]
            refine wpAnyH_take (i := 46) (oi := { dst := some 93, op := Op.pick (Operand.tmp 85) (Operand.const (Value.bool true)) (Operand.tmp 92), type := 4, pos := "law.go:97", after := #[{ on := 38, ground := Ground.data }, { on := 45, ground := Ground.data }, { on := 33, ground := Ground.guard }], guard := some (33, true) }) (v := undef) rfl (by kernel_rfl) (by kernel_rfl) (by kernel_rfl) (fun _ _ _ h => h) (Or.inr ⟨by rfl, rfl⟩) (by trivial) ?_
            try simp only [Act.put, List.setIfInBounds_toArray, List.set_cons_zero, List.set_cons_succ]
            refine wpAnyH_take (i := 47) (oi := { dst := some 94, op := Op.move (Operand.tmp 93), type := 4, pos := "law.go:97", after := #[{ on := 46, ground := Ground.data }, { on := 42, ground := Ground.chain }, { on := 33, ground := Ground.guard }], guard := some (33, true) }) (v := undef) rfl (by kernel_rfl) (by kernel_rfl) (by kernel_rfl) (fun _ _ _ h => h) (Or.inr ⟨by rfl, rfl⟩) (by trivial) ?_
            try simp only [Act.put, List.setIfInBounds_toArray, List.set_cons_zero, List.set_cons_succ]
            refine wpAnyH_take (i := 48) (oi := { dst := some 95, op := Op.load 25 (Operand.tmp 2), type := 25, pos := "law.go:97", after := #[{ on := 47, ground := Ground.guard }], guard := some (47, false) }) (v := undef) rfl (by kernel_rfl) (by kernel_rfl) (by kernel_rfl) (fun _ _ _ h => h) (Or.inr ⟨by rfl, rfl⟩) (by trivial) ?_
            try simp only [Act.put, List.setIfInBounds_toArray, List.set_cons_zero, List.set_cons_succ]
            refine wpAnyH_take (i := 49) (oi := { dst := some 96, op := Op.fieldAddr 29 (Operand.tmp 7) 0, type := 0, pos := "law.go:97", after := #[{ on := 47, ground := Ground.guard }], guard := some (47, false) }) (v := undef) rfl (by kernel_rfl) (by kernel_rfl) (by kernel_rfl) (fun _ _ _ h => h) (Or.inr ⟨by rfl, rfl⟩) (by trivial) ?_
            try simp only [Act.put, List.setIfInBounds_toArray, List.set_cons_zero, List.set_cons_succ]
            refine wpAnyH_take (i := 50) (oi := { dst := some 97, op := Op.load 3 (Operand.tmp 96), type := 3, pos := "law.go:97", after := #[{ on := 49, ground := Ground.data }, { on := 47, ground := Ground.guard }], guard := some (47, false) }) (v := undef) rfl (by kernel_rfl) (by kernel_rfl) (by kernel_rfl) (fun _ _ _ h => h) (Or.inr ⟨by rfl, rfl⟩) (by trivial) ?_
            try simp only [Act.put, List.setIfInBounds_toArray, List.set_cons_zero, List.set_cons_succ]
            refine wpAnyH_take (i := 51) (oi := { dst := some 98, op := Op.binOp BinOp.sub 3 (Operand.tmp 97) (Operand.const (Value.int IntKind.i64 1)) 3, type := 3, pos := "law.go:97", after := #[{ on := 50, ground := Ground.data }, { on := 47, ground := Ground.guard }], guard := some (47, false) }) (v := undef) rfl (by kernel_rfl) (by kernel_rfl) (by kernel_rfl) (fun _ _ _ h => h) (Or.inr ⟨by rfl, rfl⟩) (by trivial) ?_
            try simp only [Act.put, List.setIfInBounds_toArray, List.set_cons_zero, List.set_cons_succ]
            refine wpAnyH_take (i := 52) (oi := { dst := some 99, op := Op.call { callee := Callee.value (Operand.func 20), args := #[Operand.tmp 95, Operand.tmp 98], argTypes := #[25, 3] }, type := 3, pos := "law.go:97", after := #[{ on := 48, ground := Ground.data }, { on := 51, ground := Ground.data }, { on := 47, ground := Ground.chain }, { on := 47, ground := Ground.guard }], guard := some (47, false) }) (v := undef) rfl (by kernel_rfl) (by kernel_rfl) (by kernel_rfl) (fun _ _ _ h => h) (Or.inr ⟨by rfl, rfl⟩) (by trivial) ?_
            try simp only [Act.put, List.setIfInBounds_toArray, List.set_cons_zero, List.set_cons_succ]
            refine wpAnyH_take (i := 53) (oi := { dst := some 100, op := Op.move (Operand.tmp 9), type := 3, pos := "law.go:97", after := #[{ on := 47, ground := Ground.guard }], guard := some (47, false) }) (v := undef) rfl (by kernel_rfl) (by kernel_rfl) (by kernel_rfl) (fun _ _ _ h => h) (Or.inr ⟨by rfl, rfl⟩) (by trivial) ?_
            try simp only [Act.put, List.setIfInBounds_toArray, List.set_cons_zero, List.set_cons_succ]
            refine wpAnyH_take (i := 54) (oi := { dst := some 101, op := Op.binOp BinOp.neq 3 (Operand.tmp 99) (Operand.tmp 100) 3, type := 4, pos := "law.go:97", after := #[{ on := 52, ground := Ground.data }, { on := 53, ground := Ground.data }, { on := 47, ground := Ground.guard }], guard := some (47, false) }) (v := undef) rfl (by kernel_rfl) (by kernel_rfl) (by kernel_rfl) (fun _ _ _ h => h) (Or.inr ⟨by rfl, rfl⟩) (by trivial) ?_
            try simp only [Act.put, List.setIfInBounds_toArray, List.set_cons_zero, List.set_cons_succ]
            refine wpAnyH_take (i := 55) (oi := { dst := some 102, op := Op.pick (Operand.tmp 94) (Operand.const (Value.bool true)) (Operand.tmp 101), type := 4, pos := "law.go:97", after := #[{ on := 47, ground := Ground.data }, { on := 54, ground := Ground.data }, { on := 33, ground := Ground.guard }], guard := some (33, true) }) (v := undef) rfl (by kernel_rfl) (by kernel_rfl) (by kernel_rfl) (fun _ _ _ h => h) (Or.inr ⟨by rfl, rfl⟩) (by trivial) ?_
            try simp only [Act.put, List.setIfInBounds_toArray, List.set_cons_zero, List.set_cons_succ]
            refine wpAnyH_take (i := 56) (oi := { dst := some 103, op := Op.pick (Operand.tmp 80) (Operand.tmp 102) (Operand.const (Value.bool false)), type := 4, pos := "law.go:97", after := #[{ on := 33, ground := Ground.data }, { on := 55, ground := Ground.data }, { on := 31, ground := Ground.guard }], guard := some (31, false) }) (v := ?_) rfl (by kernel_rfl) (by kernel_rfl) (by kernel_rfl) (fun _ _ _ h => h) (Or.inl ⟨by rfl, ?_⟩) (by trivial) ?_
            rotate_left
            (focus (intro w9 hSw; obtain ⟨s9, T9, U9⟩ := hSw; obtain ⟨lt, c0, c1, c2, c3⟩ := s9.cells; obtain ⟨fT0, fT1⟩ := T9.both; obtain ⟨fU0, fU1⟩ := U9.both; go_simp <;> with_reducible rfl))
            try simp only [Act.put, List.setIfInBounds_toArray, List.set_cons_zero, List.set_cons_succ]
            refine wpAnyH_take (i := 57) (oi := { dst := some 104, op := Op.pick (Operand.tmp 78) (Operand.const (Value.bool true)) (Operand.tmp 103), type := 4, pos := "law.go:97", after := #[{ on := 31, ground := Ground.data }, { on := 56, ground := Ground.data }], guard := none }) (v := ?_) rfl (by kernel_rfl) (by kernel_rfl) (by kernel_rfl) (fun _ _ _ h => h) (Or.inl ⟨by rfl, ?_⟩) (by trivial) ?_
            rotate_left
            (focus (intro w9 hSw; obtain ⟨s9, T9, U9⟩ := hSw; obtain ⟨lt, c0, c1, c2, c3⟩ := s9.cells; obtain ⟨fT0, fT1⟩ := T9.both; obtain ⟨fU0, fU1⟩ := U9.both; go_simp <;> with_reducible rfl))
            try simp only [Act.put, List.setIfInBounds_toArray, List.set_cons_zero, List.set_cons_succ]
            refine wpAnyH_done (by kernel_rfl) ?_ _
            go_wp2_with fail
            refine (first_any _).mono ?_
            rintro e wz ⟨rfl, bb⟩
            replace T := T.below bb T.lt
            replace U := U.below bb U.lt
            replace s := s.step bb
            clear bb dT0 dT1 dU0 dU1 lt c0 c1 c2 c3
            obtain ⟨lt, c0, c1, c2, c3⟩ := s.cells
            obtain ⟨dT0, dT1⟩ := T.both
            obtain ⟨dU0, dU1⟩ := U.both
            go_wp2_with fail
            refine (local_any s.z s.le).mono ?_
            rintro e wz ⟨l, rfl, bb, hl, -⟩
            replace T := T.below bb T.lt
            replace U := U.below bb U.lt
            replace s := s.step bb
            clear bb dT0 dT1 dU0 dU1 lt c0 c1 c2 c3
            obtain ⟨lt, c0, c1, c2, c3⟩ := s.cells
            replace hl := (hl ⟨qt0.out, qm0.out⟩).uniq hS ⟨_, hr.out, rfl⟩
            simp only [offOf] at hl
            obtain rfl : l = u + a.off := by omega
            clear hl
            obtain ⟨dT0, dT1⟩ := T.both
            obtain ⟨dU0, dU1⟩ := U.both
            go_wp2_with fail
            go_ret
            exact ⟨rfl, s.b⟩
          | some b =>
            simp only [shv]
            go_wp2_with fail
            clear dT0 dT1
            obtain ⟨pU, hpU⟩ : ∃ pU, pU = wz.heap.size := ⟨_, rfl⟩
            replace T := T.below ((Below.refl _ _).alloc (Nat.le_refl _) (.cells #[.int .i64 b.at_, .int .i64 b.off] 29)) T.lt
            have U := Two.new_ wz (b.at_) (b.off) wz.heap.size rfl
            replace s := s.alloc (.cells #[.int .i64 b.at_, .int .i64 b.off] 29)
            rw [← hpU] at U ⊢
            clear hpU
            generalize wz.alloc (.cells #[.int .i64 b.at_, .int .i64 b.off] 29) = wy at s U T ⊢
            clear lt c0 c1 c2 c3
            obtain ⟨lt, c0, c1, c2, c3⟩ := s.cells
            obtain ⟨dT0, dT1⟩ := T.both
            obtain ⟨dU0, dU1⟩ := U.both
            refine (zoffset_any s.z s.le).mono ?_
            rintro e wz ⟨o, rfl, bb, ho, -⟩
            replace T := T.below bb T.lt
            replace U := U.below bb U.lt
            replace s := s.step bb
            clear bb dT0 dT1 dU0 dU1 lt c0 c1 c2 c3
            obtain ⟨lt, c0, c1, c2, c3⟩ := s.cells
            replace ho := ((ho ⟨qt, qm⟩).uniq hS ⟨_, hr.out, rfl⟩).symm
            simp only [offOf] at ho
            subst ho
            obtain ⟨u1, u2⟩ := qt0.out
            obtain ⟨b1, b2⟩ := qb0.out
            obtain ⟨dT0, dT1⟩ := T.both
            obtain ⟨dU0, dU1⟩ := U.both
            go_wp2_with fail
            have a0 := hr.out.2.1
            obtain ⟨a1, a2⟩ := shift_at qm0.out.ok hr.out.1
            obtain ⟨a3, a4⟩ := hS.off _ hr.out.1
            have k1 : decide (u < a.at_) = false := decide_eq_false (by omega)
            have t0 := hq.out.2.1
            obtain ⟨t1, t2⟩ := shift_at qm0.out.ok hq.out.1
            obtain ⟨t3, t4⟩ := hS.off _ hq.out.1
            have k2 : decide (b.at_ ≤ u) = false := decide_eq_false (by omega)
            have zw1 : IntKind.i64.wrap (b.at_ - 1) = b.at_ - 1 := wi64 (by omega) (by omega)
            have k3 := apart_law hS hr.out hq.out
            have zw2 : IntKind.i64.wrap (b.at_ - a.at_) = b.at_ - a.at_ := wi64 (by omega) (by omega)
            have zw3 : IntKind.i64.wrap (u + a.off) = u + a.off := wi64 (by omega) (by omega)
            replace s := s.drew
            replace T := T.drew
            replace U := U.drew
            clear dT0 dT1 dU0 dU1 lt c0 c1 c2 c3
            obtain ⟨lt, c0, c1, c2, c3⟩ := s.cells
            obtain ⟨dT0, dT1⟩ := T.both
            obtain ⟨dU0, dU1⟩ := U.both
            refine wp_region_held_drew (S := fun w9 => St w w9 w.heap.size bs A c A' c' fr L Y ∧ Two w9 pT (a.at_) (a.off) ∧ Two w9 pU (b.at_) (b.off)) (by kernel_rfl) ⟨s, T, U⟩ (fun _ => ?_)
            refine wpAnyH_take (i := 0) (oi := { dst := some 47, op := Op.move (Operand.tmp 6), type := 4, pos := "law.go:97", after := #[], guard := none }) (v := ?_) rfl (by kernel_rfl) (by kernel_rfl) (by kernel_rfl) (fun _ _ _ h => h) (Or.inl ⟨by rfl, ?_⟩) (by trivial) ?_
            rotate_left
            (focus (intro w9 hSw; obtain ⟨s9, T9, U9⟩ := hSw; obtain ⟨lt, c0, c1, c2, c3⟩ := s9.cells; obtain ⟨fT0, fT1⟩ := T9.both; obtain ⟨fU0, fU1⟩ := U9.both; go_simp <;> with_reducible rfl))
            try simp only [Act.put, List.setIfInBounds_toArray, List.set_cons_zero, List.set_cons_succ]
            refine wpAnyH_take (i := 1) (oi := { dst := some 48, op := Op.move (Operand.tmp 47), type := 4, pos := "law.go:97", after := #[{ on := 0, ground := Ground.data }], guard := none }) (v := ?_) rfl (by kernel_rfl) (by kernel_rfl) (by kernel_rfl) (fun _ _ _ h => h) (Or.inl ⟨by rfl, ?_⟩) (by trivial) ?_
            rotate_left
            (focus (intro w9 hSw; obtain ⟨s9, T9, U9⟩ := hSw; obtain ⟨lt, c0, c1, c2, c3⟩ := s9.cells; obtain ⟨fT0, fT1⟩ := T9.both; obtain ⟨fU0, fU1⟩ := U9.both; go_simp <;> with_reducible rfl))
            try simp only [Act.put, List.setIfInBounds_toArray, List.set_cons_zero, List.set_cons_succ]
            refine wpAnyH_take (i := 2) (oi := { dst := some 49, op := Op.fieldAddr 29 (Operand.tmp 5) 0, type := 0, pos := "law.go:97", after := #[{ on := 1, ground := Ground.guard }], guard := some (1, true) }) (v := ?_) rfl (by kernel_rfl) (by kernel_rfl) (by kernel_rfl) (fun _ _ _ h => h) (Or.inl ⟨by rfl, ?_⟩) (by trivial) ?_
            rotate_left
            (focus (intro w9 hSw; obtain ⟨s9, T9, U9⟩ := hSw; obtain ⟨lt, c0, c1, c2, c3⟩ := s9.cells; obtain ⟨fT0, fT1⟩ := T9.both; obtain ⟨fU0, fU1⟩ := U9.both; go_simp <;> with_reducible rfl))
            try simp only [Act.put, List.setIfInBounds_toArray, List.set_cons_zero, List.set_cons_succ]
            refine wpAnyH_take (i := 3) (oi := { dst := some 50, op := Op.load 3 (Operand.tmp 49), type := 3, pos := "law.go:97", after := #[{ on := 2, ground := Ground.data }, { on := 1, ground := Ground.guard }], guard := some (1, true) }) (v := ?_) rfl (by kernel_rfl) (by kernel_rfl) (by kernel_rfl) (fun _ _ _ h => h) (Or.inl ⟨by rfl, ?_⟩) (by trivial) ?_
            rotate_left
            (focus (intro w9 hSw; obtain ⟨s9, T9, U9⟩ := hSw; obtain ⟨lt, c0, c1, c2, c3⟩ := s9.cells; obtain ⟨fT0, fT1⟩ := T9.both; obtain ⟨fU0, fU1⟩ := U9.both; go_simp <;> with_reducible rfl))
            try simp only [Act.put, List.setIfInBounds_toArray, List.set_cons_zero, List.set_cons_succ]
            refine wpAnyH_take (i := 4) (oi := { dst := some 51, op := Op.move (Operand.tmp 1), type := 3, pos := "law.go:97", after := #[{ on := 1, ground := Ground.guard }], guard := some (1, true) }) (v := ?_) rfl (by kernel_rfl) (by kernel_rfl) (by kernel_rfl) (fun _ _ _ h => h) (Or.inl ⟨by rfl, ?_⟩) (by trivial) ?_
            rotate_left
            (focus (intro w9 hSw; obtain ⟨s9, T9, U9⟩ := hSw; obtain ⟨lt, c0, c1, c2, c3⟩ := s9.cells; obtain ⟨fT0, fT1⟩ := T9.both; obtain ⟨fU0, fU1⟩ := U9.both; go_simp <;> with_reducible rfl))
            try simp only [Act.put, List.setIfInBounds_toArray, List.set_cons_zero, List.set_cons_succ]
            refine wpAnyH_take (i := 5) (oi := { dst := some 52, op := Op.binOp BinOp.gtr 3 (Operand.tmp 50) (Operand.tmp 51) 3, type := 4, pos := "law.go:97", after := #[{ on := 3, ground := Ground.data }, { on := 4, ground := Ground.data }, { on := 1, ground := Ground.guard }], guard := some (1, true) }) (v := ?_) rfl (by kernel_rfl) (by kernel_rfl) (by kernel_rfl) (fun _ _ _ h => h) (Or.inl ⟨by rfl, ?_⟩) (by trivial) ?_
            rotate_left
            (focus (intro w9 hSw; obtain ⟨s9, T9, U9⟩ := hSw; obtain ⟨lt, c0, c1, c2, c3⟩ := s9.cells; obtain ⟨fT0, fT1⟩ := T9.both; obtain ⟨fU0, fU1⟩ := U9.both; go_simp <;> with_reducible rfl))
            try simp only [Act.put, List.setIfInBounds_toArray, List.set_cons_zero, List.set_cons_succ]
            refine wpAnyH_take (i := 6) (oi := { dst := some 53, op := Op.move (Operand.tmp 52), type := 4, pos := "law.go:97", after := #[{ on := 5, ground := Ground.data }, { on := 1, ground := Ground.chain }, { on := 1, ground := Ground.guard }], guard := some (1, true) }) (v := ?_) rfl (by kernel_rfl) (by kernel_rfl) (by kernel_rfl) (fun _ _ _ h => h) (Or.inl ⟨by rfl, ?_⟩) (by trivial) ?_
            rotate_left
            (focus (intro w9 hSw; obtain ⟨s9, T9, U9⟩ := hSw; obtain ⟨lt, c0, c1, c2, c3⟩ := s9.cells; obtain ⟨fT0, fT1⟩ := T9.both; obtain ⟨fU0, fU1⟩ := U9.both; go_simp <;> with_reducible rfl))
            try simp only [Act.put, List.setIfInBounds_toArray, List.set_cons_zero, List.set_cons_succ]
            refine wpAnyH_take (i := 7) (oi := { dst := some 54, op := Op.fieldAddr 29 (Operand.tmp 5) 1, type := 0, pos := "law.go:97", after := #[{ on := 6, ground := Ground.guard }], guard := some (6, false) }) (v := ?_) rfl (by kernel_rfl) (by kernel_rfl) (by kernel_rfl) (fun _ _ _ h => h) (Or.inl ⟨by rfl, ?_⟩) (by trivial) ?_
            rotate_left
            (focus (intro w9 hSw; obtain ⟨s9, T9, U9⟩ := hSw; obtain ⟨lt, c0, c1, c2, c3⟩ := s9.cells; obtain ⟨fT0, fT1⟩ := T9.both; obtain ⟨fU0, fU1⟩ := U9.both; go_simp <;> with_reducible rfl))
            try simp only [Act.put, List.setIfInBounds_toArray, List.set_cons_zero, List.set_cons_succ]
            refine wpAnyH_take (i := 8) (oi := { dst := some 55, op := Op.load 3 (Operand.tmp 54), type := 3, pos := "law.go:97", after := #[{ on := 7, ground := Ground.data }, { on := 6, ground := Ground.guard }], guard := some (6, false) }) (v := ?_) rfl (by kernel_rfl) (by kernel_rfl) (by kernel_rfl) (fun _ _ _ h => h) (Or.inl ⟨by rfl, ?_⟩) (by trivial) ?_
            rotate_left
            (focus (intro w9 hSw; obtain ⟨s9, T9, U9⟩ := hSw; obtain ⟨lt, c0, c1, c2, c3⟩ := s9.cells; obtain ⟨fT0, fT1⟩ := T9.both; obtain ⟨fU0, fU1⟩ := U9.both; go_simp <;> with_reducible rfl))
            try simp only [Act.put, List.setIfInBounds_toArray, List.set_cons_zero, List.set_cons_succ]
            refine wpAnyH_take (i := 9) (oi := { dst := some 56, op := Op.move (Operand.tmp 9), type := 3, pos := "law.go:97", after := #[{ on := 6, ground := Ground.guard }], guard := some (6, false) }) (v := ?_) rfl (by kernel_rfl) (by kernel_rfl) (by kernel_rfl) (fun _ _ _ h => h) (Or.inl ⟨by rfl, ?_⟩) (by trivial) ?_
            rotate_left
            (focus (intro w9 hSw; obtain ⟨s9, T9, U9⟩ := hSw; obtain ⟨lt, c0, c1, c2, c3⟩ := s9.cells; obtain ⟨fT0, fT1⟩ := T9.both; obtain ⟨fU0, fU1⟩ := U9.both; go_simp <;> with_reducible rfl))
            try simp only [Act.put, List.setIfInBounds_toArray, List.set_cons_zero, List.set_cons_succ]
            refine wpAnyH_take (i := 10) (oi := { dst := some 57, op := Op.binOp BinOp.neq 3 (Operand.tmp 55) (Operand.tmp 56) 3, type := 4, pos := "law.go:97", after := #[{ on := 8, ground := Ground.data }, { on := 9, ground := Ground.data }, { on := 6, ground := Ground.guard }], guard := some (6, false) }) (v := ?_) rfl (by kernel_rfl) (by kernel_rfl) (by kernel_rfl) (fun _ _ _ h => h) (Or.inl ⟨by rfl, ?_⟩) (by trivial) ?_
            rotate_left
            (focus (intro w9 hSw; obtain ⟨s9, T9, U9⟩ := hSw; obtain ⟨lt, c0, c1, c2, c3⟩ := s9.cells; obtain ⟨fT0, fT1⟩ := T9.both; obtain ⟨fU0, fU1⟩ := U9.both; go_simp <;> with_reducible rfl))
            try simp only [Act.put, List.setIfInBounds_toArray, List.set_cons_zero, List.set_cons_succ]
            refine wpAnyH_take (i := 11) (oi := { dst := some 58, op := Op.pick (Operand.tmp 53) (Operand.const (Value.bool true)) (Operand.tmp 57), type := 4, pos := "law.go:97", after := #[{ on := 6, ground := Ground.data }, { on := 10, ground := Ground.data }, { on := 1, ground := Ground.guard }], guard := some (1, true) }) (v := ?_) rfl (by kernel_rfl) (by kernel_rfl) (by kernel_rfl) (fun _ _ _ h => h) (Or.inl ⟨by rfl, ?_⟩) (by trivial) ?_
            rotate_left
            (focus (intro w9 hSw; obtain ⟨s9, T9, U9⟩ := hSw; obtain ⟨lt, c0, c1, c2, c3⟩ := s9.cells; obtain ⟨fT0, fT1⟩ := T9.both; obtain ⟨fU0, fU1⟩ := U9.both; go_simp <;> with_reducible rfl))
            try simp only [Act.put, List.setIfInBounds_toArray, List.set_cons_zero, List.set_cons_succ]
            refine wpAnyH_take (i := 12) (oi := { dst := some 59, op := Op.move (Operand.tmp 58), type := 4, pos := "law.go:97", after := #[{ on := 11, ground := Ground.data }, { on := 6, ground := Ground.chain }, { on := 1, ground := Ground.guard }], guard := some (1, true) }) (v := ?_) rfl (by kernel_rfl) (by kernel_rfl) (by kernel_rfl) (fun _ _ _ h => h) (Or.inl ⟨by rfl, ?_⟩) (by trivial) ?_
            rotate_left
            (focus (intro w9 hSw; obtain ⟨s9, T9, U9⟩ := hSw; obtain ⟨lt, c0, c1, c2, c3⟩ := s9.cells; obtain ⟨fT0, fT1⟩ := T9.both; obtain ⟨fU0, fU1⟩ := U9.both; go_simp <;> with_reducible rfl))
            try simp only [Act.put, List.setIfInBounds_toArray, List.set_cons_zero, List.set_cons_succ]
            refine wpAnyH_take (i := 13) (oi := { dst := some 60, op := Op.load 25 (Operand.tmp 2), type := 25, pos := "law.go:97", after := #[{ on := 12, ground := Ground.guard }], guard := some (12, false) }) (v := ?_) rfl (by kernel_rfl) (by kernel_rfl) (by kernel_rfl) (fun _ _ _ h => h) (Or.inl ⟨by rfl, ?_⟩) (by trivial) ?_
            rotate_left
            (focus (intro w9 hSw; obtain ⟨s9, T9, U9⟩ := hSw; obtain ⟨lt, c0, c1, c2, c3⟩ := s9.cells; obtain ⟨fT0, fT1⟩ := T9.both; obtain ⟨fU0, fU1⟩ := U9.both; go_simp <;> with_reducible rfl))
            try simp only [Act.put, List.setIfInBounds_toArray, List.set_cons_zero, List.set_cons_succ]
            refine wpAnyH_take (i := 14) (oi := { dst := some 61, op := Op.fieldAddr 29 (Operand.tmp 5) 0, type := 0, pos := "law.go:97", after := #[{ on := 12, ground := Ground.guard }], guard := some (12, false) }) (v := ?_) rfl (by kernel_rfl) (by kernel_rfl) (by kernel_rfl) (fun _ _ _ h => h) (Or.inl ⟨by rfl, ?_⟩) (by trivial) ?_
            rotate_left
            (focus (intro w9 hSw; obtain ⟨s9, T9, U9⟩ := hSw; obtain ⟨lt, c0, c1, c2, c3⟩ := s9.cells; obtain ⟨fT0, fT1⟩ := T9.both; obtain ⟨fU0, fU1⟩ := U9.both; go_simp <;> with_reducible rfl))
            try simp only [Act.put, List.setIfInBounds_toArray, List.set_cons_zero, List.set_cons_succ]
            refine wpAnyH_take (i := 15) (oi := { dst := some 62, op := Op.load 3 (Operand.tmp 61), type := 3, pos := "law.go:97", after := #[{ on := 14, ground := Ground.data }, { on := 12, ground := Ground.guard }], guard := some (12, false) }) (v := ?_) rfl (by kernel_rfl) (by kernel_rfl) (by kernel_rfl) (fun _ _ _ h => h) (Or.inl ⟨by rfl, ?_⟩) (by trivial) ?_
            rotate_left
            (focus (intro w9 hSw; obtain ⟨s9, T9, U9⟩ := hSw; obtain ⟨lt, c0, c1, c2, c3⟩ := s9.cells; obtain ⟨fT0, fT1⟩ := T9.both; obtain ⟨fU0, fU1⟩ := U9.both; go_simp <;> with_reducible rfl))
            try simp only [Act.put, List.setIfInBounds_toArray, List.set_cons_zero, List.set_cons_succ]
            refine wpAnyH_take (i := 17) (oi := { dst := some 64, op := Op.move (Operand.tmp 9), type := 3, pos := "law.go:97", after := #[{ on := 12, ground := Ground.guard }], guard := some (12, false) }) (v := ?_) rfl (by kernel_rfl) (by kernel_rfl) (by kernel_rfl) (fun _ _ _ h => h) (Or.inl ⟨by rfl, ?_⟩) (by trivial) ?_
            rotate_left
            (focus (intro w9 hSw; obtain ⟨s9, T9, U9⟩ := hSw; obtain ⟨lt, c0, c1, c2, c3⟩ := s9.cells; obtain ⟨fT0, fT1⟩ := T9.both; obtain ⟨fU0, fU1⟩ := U9.both; go_simp <;> with_reducible rfl))
            try simp only [Act.put, List.setIfInBounds_toArray, List.set_cons_zero, List.set_cons_succ]
            refine wpAnyH_ready (rs := [16]) (by kernel_rfl) (by simp) ?_
            refine AllReadyH.cons (o := { dst := some 63, op := Op.call { callee := Callee.value (Operand.func 20), args := #[Operand.tmp 60, Operand.tmp 62], argTypes := #[25, 3] }, type := 3, pos := "law.go:97", after := #[{ on := 13, ground := Ground.data }, { on := 15, ground := Ground.data }, { on := 12, ground := Ground.chain }, { on := 12, ground := Ground.guard }], guard := some (12, false) }) rfl (fun K hK => ?_) AllReadyH.nil
            go_simp
            refine (zoffset_any s.z s.le).mono ?_
            rintro e wz ⟨o, rfl, bb, ho, -⟩
            replace T := T.below bb T.lt
            replace U := U.below bb U.lt
            replace s := s.step bb
            clear bb dT0 dT1 dU0 dU1 lt c0 c1 c2 c3
            obtain ⟨lt, c0, c1, c2, c3⟩ := s.cells
            replace ho := ((ho ⟨⟨a1, a2⟩, qm0.out⟩).uniq hS ⟨_, hr.out.self, rfl⟩).symm
            simp only [offOf] at ho
            subst ho
            obtain ⟨dT0, dT1⟩ := T.both
            obtain ⟨dU0, dU1⟩ := U.both
            go_wp2_with fail
            refine hK.out _ _ ⟨s, T, U⟩ (fun _ => ?_)
            clear hK K
            try simp only [Act.put, List.setIfInBounds_toArray, List.set_cons_zero, List.set_cons_succ]
            refine wpAnyH_take (i := 18) (oi := { dst := some 65, op := Op.binOp BinOp.neq 3 (Operand.tmp 63) (Operand.tmp 64) 3, type := 4, pos := "law.go:97", after := #[{ on := 16, ground := Ground.data }, { on := 17, ground := Ground.data }, { on := 12, ground := Ground.guard }], guard := some (12, false) }) (v := ?_) rfl (by kernel_rfl) (by kernel_rfl) (by kernel_rfl) (fun _ _ _ h => h) (Or.inl ⟨by rfl, ?_⟩) (by trivial) ?_
            rotate_left
            (focus (intro w9 hSw; obtain ⟨s9, T9, U9⟩ := hSw; obtain ⟨lt, c0, c1, c2, c3⟩ := s9.cells; obtain ⟨fT0, fT1⟩ := T9.both; obtain ⟨fU0, fU1⟩ := U9.both; go_simp <;> with_reducible rfl))
            try simp only [Act.put, List.setIfInBounds_toArray, List.set_cons_zero, List.set_cons_succ]
            refine wpAnyH_take (i := 19) (oi := { dst := some 66, op := Op.pick (Operand.tmp 59) (Operand.const (Value.bool true)) (Operand.tmp 65), type := 4, pos := "law.go:97", after := #[{ on := 12, ground := Ground.data }, { on := 18, ground := Ground.data }, { on := 1, ground := Ground.guard }], guard := some (1, true) }) (v := ?_) rfl (by kernel_rfl) (by kernel_rfl) (by kernel_rfl) (fun _ _ _ h => h) (Or.inl ⟨by rfl, ?_⟩) (by trivial) ?_
            rotate_left
            (focus (intro w9 hSw; obtain ⟨s9, T9, U9⟩ := hSw; obtain ⟨lt, c0, c1, c2, c3⟩ := s9.cells; obtain ⟨fT0, fT1⟩ := T9.both; obtain ⟨fU0, fU1⟩ := U9.both; go_simp <;> with_reducible rfl))
            try simp only [Act.put, List.setIfInBounds_toArray, List.set_cons_zero, List.set_cons_succ]
            refine wpAnyH_take (i := 20) (oi := { dst := some 67, op := Op.pick (Operand.tmp 48) (Operand.tmp 66) (Operand.const (Value.bool false)), type := 4, pos := "law.go:97", after := #[{ on := 1, ground := Ground.data }, { on := 19, ground := Ground.data }], guard := none }) (v := ?_) rfl (by kernel_rfl) (by kernel_rfl) (by kernel_rfl) (fun _ _ _ h => h) (Or.inl ⟨by rfl, ?_⟩) (by trivial) ?_
            rotate_left
            (focus (intro w9 hSw; obtain ⟨s9, T9, U9⟩ := hSw; obtain ⟨lt, c0, c1, c2, c3⟩ := s9.cells; obtain ⟨fT0, fT1⟩ := T9.both; obtain ⟨fU0, fU1⟩ := U9.both; go_simp <;> with_reducible rfl))
            try simp only [Act.put, List.setIfInBounds_toArray, List.set_cons_zero, List.set_cons_succ]
            refine wpAnyH_take (i := 21) (oi := { dst := some 68, op := Op.move (Operand.tmp 67), type := 4, pos := "law.go:97", after := #[{ on := 20, ground := Ground.data }, { on := 16, ground := Ground.chain }], guard := none }) (v := ?_) rfl (by kernel_rfl) (by kernel_rfl) (by kernel_rfl) (fun _ _ _ h => h) (Or.inl ⟨by rfl, ?_⟩) (by trivial) ?_
            rotate_left
            (focus (intro w9 hSw; obtain ⟨s9, T9, U9⟩ := hSw; obtain ⟨lt, c0, c1, c2, c3⟩ := s9.cells; obtain ⟨fT0, fT1⟩ := T9.both; obtain ⟨fU0, fU1⟩ := U9.both; go_simp <;> with_reducible rfl))
            try simp only [Act.put, List.setIfInBounds_toArray, List.set_cons_zero, List.set_cons_succ]
            refine wpAnyH_take (i := 22) (oi := { dst := some 69, op := Op.move (Operand.tmp 6), type := 4, pos := "law.go:97", after := #[{ on := 21, ground := Ground.guard }], guard := some (21, false) }) (v := ?_) rfl (by kernel_rfl) (by kernel_rfl) (by kernel_rfl) (fun _ _ _ h => h) (Or.inl ⟨by rfl, ?_⟩) (by trivial) ?_
            rotate_left
            (focus (intro w9 hSw; obtain ⟨s9, T9, U9⟩ := hSw; obtain ⟨lt, c0, c1, c2, c3⟩ := s9.cells; obtain ⟨fT0, fT1⟩ := T9.both; obtain ⟨fU0, fU1⟩ := U9.both; go_simp <;> with_reducible rfl))
            try simp only [Act.put, List.setIfInBounds_toArray, List.set_cons_zero, List.set_cons_succ]
            refine wpAnyH_take (i := 23) (oi := { dst := some 70, op := Op.unOp UnOp.not 4 (Operand.tmp 69), type := 4, pos := "law.go:97", after := #[{ on := 22, ground := Ground.data }, { on := 21, ground := Ground.guard }], guard := some (21, false) }) (v := ?_) rfl (by kernel_rfl) (by kernel_rfl) (by kernel_rfl) (fun _ _ _ h => h) (Or.inl ⟨by rfl, ?_⟩) (by trivial) ?_
            rotate_left
            (focus (intro w9 hSw; obtain ⟨s9, T9, U9⟩ := hSw; obtain ⟨lt, c0, c1, c2, c3⟩ := s9.cells; obtain ⟨fT0, fT1⟩ := T9.both; obtain ⟨fU0, fU1⟩ := U9.both; go_simp <;> with_reducible rfl))
            try simp only [Act.put, List.setIfInBounds_toArray, List.set_cons_zero, List.set_cons_succ]
            refine wpAnyH_take (i := 24) (oi := { dst := some 71, op := Op.move (Operand.tmp 70), type := 4, pos := "law.go:97", after := #[{ on := 23, ground := Ground.data }, { on := 21, ground := Ground.chain }, { on := 21, ground := Ground.guard }], guard := some (21, false) }) (v := ?_) rfl (by kernel_rfl) (by kernel_rfl) (by kernel_rfl) (fun _ _ _ h => h) (Or.inl ⟨by rfl, ?_⟩) (by trivial) ?_
            rotate_left
            (focus (intro w9 hSw; obtain ⟨s9, T9, U9⟩ := hSw; obtain ⟨lt, c0, c1, c2, c3⟩ := s9.cells; obtain ⟨fT0, fT1⟩ := T9.both; obtain ⟨fU0, fU1⟩ := U9.both; go_simp <;> with_reducible rfl))
            try simp only [Act.put, List.setIfInBounds_toArray, List.set_cons_zero, List.set_cons_succ]
            refine wpAnyH_take (i := 25) (oi := { dst := some 72, op := Op.move (Operand.tmp 9), type := 3, pos := "law.go:97", after := #[{ on := 24, ground := Ground.guard }], guard := some (24, true) }) (v := undef) rfl (by kernel_rfl) (by kernel_rfl) (by kernel_rfl) (fun _ _ _ h => h) (Or.inr ⟨by rfl, rfl⟩) (by trivial) ?_
            try simp only [Act.put, List.setIfInBounds_toArray, List.set_cons_zero, List.set_cons_succ]
            refine wpAnyH_take (i := 26) (oi := { dst := some 73, op := Op.fieldAddr 25 (Operand.tmp 2) 0, type := 0, pos := "law.go:97", after := #[{ on := 24, ground := Ground.guard }], guard := some (24, true) }) (v := undef) rfl (by kernel_rfl) (by kernel_rfl) (by kernel_rfl) (fun _ _ _ h => h) (Or.inr ⟨by rfl, rfl⟩) (by trivial) ?_
            try simp only [Act.put, List.setIfInBounds_toArray, List.set_cons_zero, List.set_cons_succ]
            refine wpAnyH_take (i := 27) (oi := { dst := some 74, op := Op.load 3 (Operand.tmp 73), type := 3, pos := "law.go:97", after := #[{ on := 26, ground := Ground.data }, { on := 24, ground := Ground.guard }], guard := some (24, true) }) (v := undef) rfl (by kernel_rfl) (by kernel_rfl) (by kernel_rfl) (fun _ _ _ h => h) (Or.inr ⟨by rfl, rfl⟩) (by trivial) ?_
            try simp only [Act.put, List.setIfInBounds_toArray, List.set_cons_zero, List.set_cons_succ]
            refine wpAnyH_take (i := 28) (oi := { dst := some 75, op := Op.binOp BinOp.neq 3 (Operand.tmp 72) (Operand.tmp 74) 3, type := 4, pos := "law.go:97", after := #[{ on := 25, ground := Ground.data }, { on := 27, ground := Ground.data }, { on := 24, ground := Ground.guard }], guard := some (24, true) }) (v := undef) rfl (by kernel_rfl) (by kernel_rfl) (by kernel_rfl) (fun _ _ _ h => h) (Or.inr ⟨by rfl, rfl⟩) (by trivial) ?_
            try simp only [Act.put, List.setIfInBounds_toArray, List.set_cons_zero, List.set_cons_succ]
            refine wpAnyH_take (i := 29) (oi := { dst := some 76, op := Op.pick (Operand.tmp 71) (Operand.tmp 75) (Operand.const (Value.bool false)), type := 4, pos := "law.go:97", after := #[{ on := 24, ground := Ground.data }, { on := 28, ground := Ground.data }, { on := 21, ground := Ground.guard }], guard := some (21, false) }) (v := ?_) rfl (by kernel_rfl) (by kernel_rfl) (by kernel_rfl) (fun _ _ _ h => h) (Or.inl ⟨by rfl, ?_⟩) (by trivial) ?_
            rotate_left
            (focus (intro w9 hSw; obtain ⟨s9, T9, U9⟩ := hSw; obtain ⟨lt, c0, c1, c2, c3⟩ := s9.cells; obtain ⟨fT0, fT1⟩ := T9.both; obtain ⟨fU0, fU1⟩ := U9.both; go_simp <;> with_reducible rfl))
            try simp only [Act.put, List.setIfInBounds_toArray, List.set_cons_zero, List.set_cons_succ]
            refine wpAnyH_take (i := 30) (oi := { dst := some 77, op := Op.pick (Operand.tmp 68) (Operand.const (Value.bool true)) (Operand.tmp 76), type := 4, pos := "law.go:97", after := #[{ on := 21, ground := Ground.data }, { on := 29, ground := Ground.data }], guard := none }) (v := ?_) rfl (by kernel_rfl) (by kernel_rfl) (by kernel_rfl) (fun _ _ _ h => h) (Or.inl ⟨by rfl, ?_⟩) (by trivial) ?_
            rotate_left
            (focus (intro w9 hSw; obtain ⟨s9, T9, U9⟩ := hSw; obtain ⟨lt, c0, c1, c2, c3⟩ := s9.cells; obtain ⟨fT0, fT1⟩ := T9.both; obtain ⟨fU0, fU1⟩ := U9.both; go_simp <;> with_reducible rfl))
            try simp only [Act.put, List.setIfInBounds_toArray, List.set_cons_zero, List.set_cons_succ]
            refine wpAnyH_take (i := 31) (oi := { dst := some 78, op := Op.move (Operand.tmp 77), type := 4, pos := "law.go:97", after := #[{ on := 30, ground := Ground.data }, { on := 24, ground := Ground.chain }], guard := none }) (v := ?_) rfl (by kernel_rfl) (by kernel_rfl) (by kernel_rfl) (fun _ _ _ h => h) (Or.inl ⟨by rfl, ?_⟩) (by trivial) ?_
            rotate_left
            (focus (intro w9 hSw; obtain ⟨s9, T9, U9⟩ := hSw; obtain ⟨lt, c0, c1, c2, c3⟩ := s9.cells; obtain ⟨fT0, fT1⟩ := T9.both; obtain ⟨fU0, fU1⟩ := U9.both; go_simp <;> with_reducible rfl))
            try simp only [Act.put, List.setIfInBounds_toArray, List.set_cons_zero, List.set_cons_succ]
            refine wpAnyH_take (i := 32) (oi := { dst := some 79, op := Op.move (Operand.tmp 8), type := 4, pos := "law.go:97", after := #[{ on := 31, ground := Ground.guard }], guard := some (31, false) }) (v := ?_) rfl (by kernel_rfl) (by kernel_rfl) (by kernel_rfl) (fun _ _ _ h => h) (Or.inl ⟨by rfl, ?_⟩) (by trivial) ?_
            rotate_left
            (focus (intro w9 hSw; obtain ⟨s9, T9, U9⟩ := hSw; obtain ⟨lt, c0, c1, c2, c3⟩ := s9.cells; obtain ⟨fT0, fT1⟩ := T9.both; obtain ⟨fU0, fU1⟩ := U9.both; go_simp <;> with_reducible rfl))
            try simp only [Act.put, List.setIfInBounds_toArray, List.set_cons_zero, List.set_cons_succ]
            refine wpAnyH_take (i := 33) (oi := { dst := some 80, op := Op.move (Operand.tmp 79), type := 4, pos := "law.go:97", after := #[{ on := 32, ground := Ground.data }, { on := 31, ground := Ground.chain }, { on := 31, ground := Ground.guard }], guard := some (31, false) }) (v := ?_) rfl (by kernel_rfl) (by kernel_rfl) (by kernel_rfl) (fun _ _ _ h => h) (Or.inl ⟨by rfl, ?_⟩) (by trivial) ?_
            rotate_left
            (focus (intro w9 hSw; obtain ⟨s9, T9, U9⟩ := hSw; obtain ⟨lt, c0, c1, c2, c3⟩ := s9.cells; obtain ⟨fT0, fT1⟩ := T9.both; obtain ⟨fU0, fU1⟩ := U9.both; go_simp <;> with_reducible rfl))
            try simp only [Act.put, List.setIfInBounds_toArray, List.set_cons_zero, List.set_cons_succ]
            refine wpAnyH_take (i := 34) (oi := { dst := some 81, op := Op.fieldAddr 29 (Operand.tmp 7) 0, type := 0, pos := "law.go:97", after := #[{ on := 33, ground := Ground.guard }], guard := some (33, true) }) (v := ?_) rfl (by kernel_rfl) (by kernel_rfl) (by kernel_rfl) (fun _ _ _ h => h) (Or.inl ⟨by rfl, ?_⟩) (by trivial) ?_
            rotate_left
            (focus (intro w9 hSw; obtain ⟨s9, T9, U9⟩ := hSw; obtain ⟨lt, c0, c1, c2, c3⟩ := s9.cells; obtain ⟨fT0, fT1⟩ := T9.both; obtain ⟨fU0, fU1⟩ := U9.both; go_simp <;> with_reducible rfl))
            try simp only [Act.put, List.setIfInBounds_toArray, List.set_cons_zero, List.set_cons_succ]
            refine wpAnyH_take (i := 35) (oi := { dst := some 82, op := Op.load 3 (Operand.tmp 81), type := 3, pos := "law.go:97", after := #[{ on := 34, ground := Ground.data }, { on := 33, ground := Ground.guard }], guard := some (33, true) }) (v := ?_) rfl (by kernel_rfl) (by kernel_rfl) (by kernel_rfl) (fun _ _ _ h => h) (Or.inl ⟨by rfl, ?_⟩) (by trivial) ?_
            rotate_left
            (focus (intro w9 hSw; obtain ⟨s9, T9, U9⟩ := hSw; obtain ⟨lt, c0, c1, c2, c3⟩ := s9.cells; obtain ⟨fT0, fT1⟩ := T9.both; obtain ⟨fU0, fU1⟩ := U9.both; go_simp <;> with_reducible rfl))
            try simp only [Act.put, List.setIfInBounds_toArray, List.set_cons_zero, List.set_cons_succ]
            refine wpAnyH_take (i := 36) (oi := { dst := some 83, op := Op.move (Operand.tmp 1), type := 3, pos := "law.go:97", after := #[{ on := 33, ground := Ground.guard }], guard := some (33, true) }) (v := ?_) rfl (by kernel_rfl) (by kernel_rfl) (by kernel_rfl) (fun _ _ _ h => h) (Or.inl ⟨by rfl, ?_⟩) (by trivial) ?_
            rotate_left
            (focus (intro w9 hSw; obtain ⟨s9, T9, U9⟩ := hSw; obtain ⟨lt, c0, c1, c2, c3⟩ := s9.cells; obtain ⟨fT0, fT1⟩ := T9.both; obtain ⟨fU0, fU1⟩ := U9.both; go_simp <;> with_reducible rfl))
            try simp only [Act.put, List.setIfInBounds_toArray, List.set_cons_zero, List.set_cons_succ]
            refine wpAnyH_take (i := 37) (oi := { dst := some 84, op := Op.binOp BinOp.leq 3 (Operand.tmp 82) (Operand.tmp 83) 3, type := 4, pos := "law.go:97", after := #[{ on := 35, ground := Ground.data }, { on := 36, ground := Ground.data }, { on := 33, ground := Ground.guard }], guard := some (33, true) }) (v := ?_) rfl (by kernel_rfl) (by kernel_rfl) (by kernel_rfl) (fun _ _ _ h => h) (Or.inl ⟨by rfl, ?_⟩) (by trivial) ?_
            rotate_left
            (focus (intro w9 hSw; obtain ⟨s9, T9, U9⟩ := hSw; obtain ⟨lt, c0, c1, c2, c3⟩ := s9.cells; obtain ⟨fT0, fT1⟩ := T9.both; obtain ⟨fU0, fU1⟩ := U9.both; go_simp <;> with_reducible rfl))
            try simp only [Act.put, List.setIfInBounds_toArray, List.set_cons_zero, List.set_cons_succ]
            refine wpAnyH_take (i := 38) (oi := { dst := some 85, op := Op.move (Operand.tmp 84), type := 4, pos := "law.go:97", after := #[{ on := 37, ground := Ground.data }, { on := 33, ground := Ground.chain }, { on := 33, ground := Ground.guard }], guard := some (33, true) }) (v := ?_) rfl (by kernel_rfl) (by kernel_rfl) (by kernel_rfl) (fun _ _ _ h => h) (Or.inl ⟨by rfl, ?_⟩) (by trivial) ?_
            rotate_left
            (focus (intro w9 hSw; obtain ⟨s9, T9, U9⟩ := hSw; obtain ⟨lt, c0, c1, c2, c3⟩ := s9.cells; obtain ⟨fT0, fT1⟩ := T9.both; obtain ⟨fU0, fU1⟩ := U9.both; go_simp <;> with_reducible rfl))
            try simp only [Act.put, List.setIfInBounds_toArray, List.set_cons_zero, List.set_cons_succ]
            refine wpAnyH_take (i := 39) (oi := { dst := some 86, op := Op.load 25 (Operand.tmp 2), type := 25, pos := "law.go:97", after := #[{ on := 38, ground := Ground.guard }], guard := some (38, false) }) (v := ?_) rfl (by kernel_rfl) (by kernel_rfl) (by kernel_rfl) (fun _ _ _ h => h) (Or.inl ⟨by rfl, ?_⟩) (by trivial) ?_
            rotate_left
            (focus (intro w9 hSw; obtain ⟨s9, T9, U9⟩ := hSw; obtain ⟨lt, c0, c1, c2, c3⟩ := s9.cells; obtain ⟨fT0, fT1⟩ := T9.both; obtain ⟨fU0, fU1⟩ := U9.both; go_simp <;> with_reducible rfl))
            try simp only [Act.put, List.setIfInBounds_toArray, List.set_cons_zero, List.set_cons_succ]
            refine wpAnyH_take (i := 40) (oi := { dst := some 87, op := Op.fieldAddr 29 (Operand.tmp 7) 0, type := 0, pos := "law.go:97", after := #[{ on := 38, ground := Ground.guard }], guard := some (38, false) }) (v := ?_) rfl (by kernel_rfl) (by kernel_rfl) (by kernel_rfl) (fun _ _ _ h => h) (Or.inl ⟨by rfl, ?_⟩) (by trivial) ?_
            rotate_left
            (focus (intro w9 hSw; obtain ⟨s9, T9, U9⟩ := hSw; obtain ⟨lt, c0, c1, c2, c3⟩ := s9.cells; obtain ⟨fT0, fT1⟩ := T9.both; obtain ⟨fU0, fU1⟩ := U9.both; go_simp <;> with_reducible rfl))
            try simp only [Act.put, List.setIfInBounds_toArray, List.set_cons_zero, List.set_cons_succ]
            refine wpAnyH_take (i := 41) (oi := { dst := some 88, op := Op.load 3 (Operand.tmp 87), type := 3, pos := "law.go:97", after := #[{ on := 40, ground := Ground.data }, { on := 38, ground := Ground.guard }], guard := some (38, false) }) (v := ?_) rfl (by kernel_rfl) (by kernel_rfl) (by kernel_rfl) (fun _ _ _ h => h) (Or.inl ⟨by rfl, ?_⟩) (by trivial) ?_
            rotate_left
            (focus (intro w9 hSw; obtain ⟨s9, T9, U9⟩ := hSw; obtain ⟨lt, c0, c1, c2, c3⟩ := s9.cells; obtain ⟨fT0, fT1⟩ := T9.both; obtain ⟨fU0, fU1⟩ := U9.both; go_simp <;> with_reducible rfl))
            try simp only [Act.put, List.setIfInBounds_toArray, List.set_cons_zero, List.set_cons_succ]
            refine wpAnyH_take (i := 43) (oi := { dst := some 90, op := Op.fieldAddr 29 (Operand.tmp 7) 1, type := 0, pos := "law.go:97", after := #[{ on := 38, ground := Ground.guard }], guard := some (38, false) }) (v := ?_) rfl (by kernel_rfl) (by kernel_rfl) (by kernel_rfl) (fun _ _ _ h => h) (Or.inl ⟨by rfl, ?_⟩) (by trivial) ?_
            rotate_left
            (focus (intro w9 hSw; obtain ⟨s9, T9, U9⟩ := hSw; obtain ⟨lt, c0, c1, c2, c3⟩ := s9.cells; obtain ⟨fT0, fT1⟩ := T9.both; obtain ⟨fU0, fU1⟩ := U9.both; go_simp <;> with_reducible rfl))
            try simp only [Act.put, List.setIfInBounds_toArray, List.set_cons_zero, List.set_cons_succ]
            refine wpAnyH_take (i := 44) (oi := { dst := some 91, op := Op.load 3 (Operand.tmp 90), type := 3, pos := "law.go:97", after := #[{ on := 43, ground := Ground.data }, { on := 38, ground := Ground.guard }], guard := some (38, false) }) (v := ?_) rfl (by kernel_rfl) (by kernel_rfl) (by kernel_rfl) (fun _ _ _ h => h) (Or.inl ⟨by rfl, ?_⟩) (by trivial) ?_
            rotate_left
            (focus (intro w9 hSw; obtain ⟨s9, T9, U9⟩ := hSw; obtain ⟨lt, c0, c1, c2, c3⟩ := s9.cells; obtain ⟨fT0, fT1⟩ := T9.both; obtain ⟨fU0, fU1⟩ := U9.both; go_simp <;> with_reducible rfl))
            try simp only [Act.put, List.setIfInBounds_toArray, List.set_cons_zero, List.set_cons_succ]
            refine wpAnyH_ready (rs := [42]) (by kernel_rfl) (by simp) ?_
            refine AllReadyH.cons (o := { dst := some 89, op := Op.call { callee := Callee.value (Operand.func 20), args := #[Operand.tmp 86, Operand.tmp 88], argTypes := #[25, 3] }, type := 3, pos := "law.go:97", after := #[{ on := 39, ground := Ground.data }, { on := 41, ground := Ground.data }, { on := 38, ground := Ground.chain }, { on := 38, ground := Ground.guard }], guard := some (38, false) }) rfl (fun K hK => ?_) AllReadyH.nil
            go_simp
            refine (zoffset_any s.z s.le).mono ?_
            rintro e wz ⟨o, rfl, bb, ho, -⟩
            replace T := T.below bb T.lt
            replace U := U.below bb U.lt
            replace s := s.step bb
            clear bb dT0 dT1 dU0 dU1 lt c0 c1 c2 c3
            obtain ⟨lt, c0, c1, c2, c3⟩ := s.cells
            replace ho := ((ho ⟨⟨t1, t2⟩, qm0.out⟩).uniq hS ⟨_, hq.out.self hS, rfl⟩).symm
            simp only [offOf] at ho
            subst ho
            obtain ⟨dT0, dT1⟩ := T.both
            obtain ⟨dU0, dU1⟩ := U.both
            go_wp2_with fail
            refine hK.out _ _ ⟨s, T, U⟩ (fun _ => ?_)
            clear hK K
            try simp only [Act.put, List.setIfInBounds_toArray, List.set_cons_zero, List.set_cons_succ]
            refine wpAnyH_take (i := 45) (oi := { dst := some 92, op := Op.binOp BinOp.neq 3 (Operand.tmp 89) (Operand.tmp 91) 3, type := 4, pos := "law.go:97", after := #[{ on := 42, ground := Ground.data }, { on := 44, ground := Ground.data }, { on := 38, ground := Ground.guard }], guard := some (38, false) }) (v := ?_) rfl (by kernel_rfl) (by kernel_rfl) (by kernel_rfl) (fun _ _ _ h => h) (Or.inl ⟨by rfl, ?_⟩) (by trivial) ?_
            rotate_left
            (focus (intro w9 hSw; obtain ⟨s9, T9, U9⟩ := hSw; obtain ⟨lt, c0, c1, c2, c3⟩ := s9.cells; obtain ⟨fT0, fT1⟩ := T9.both; obtain ⟨fU0, fU1⟩ := U9.both; go_simp <;> with_reducible rfl))
            try simp only [Act.put, List.setIfInBounds_toArray, List.set_cons_zero, List.set_cons_succ]
            refine wpAnyH_take (i := 46) (oi := { dst := some 93, op := Op.pick (Operand.tmp 85) (Operand.const (Value.bool true)) (Operand.tmp 92), type := 4, pos := "law.go:97", after := #[{ on := 38, ground := Ground.data }, { on := 45, ground := Ground.data }, { on := 33, ground := Ground.guard }], guard := some (33, true) }) (v := ?_) rfl (by kernel_rfl) (by kernel_rfl) (by kernel_rfl) (fun _ _ _ h => h) (Or.inl ⟨by rfl, ?_⟩) (by trivial) ?_
            rotate_left
            (focus (intro w9 hSw; obtain ⟨s9, T9, U9⟩ := hSw; obtain ⟨lt, c0, c1, c2, c3⟩ := s9.cells; obtain ⟨fT0, fT1⟩ := T9.both; obtain ⟨fU0, fU1⟩ := U9.both; go_simp <;> with_reducible rfl))
            try simp only [Act.put, List.setIfInBounds_toArray, List.set_cons_zero, List.set_cons_succ]
            refine wpAnyH_take (i := 47) (oi := { dst := some 94, op := Op.move (Operand.tmp 93), type := 4, pos := "law.go:97", after := #[{ on := 46, ground := Ground.data }, { on := 42, ground := Ground.chain }, { on := 33, ground := Ground.guard }], guard := some (33, true) }) (v := ?_) rfl (by kernel_rfl) (by kernel_rfl) (by kernel_rfl) (fun _ _ _ h => h) (Or.inl ⟨by rfl, ?_⟩) (by trivial) ?_
            rotate_left
            (focus (intro w9 hSw; obtain ⟨s9, T9, U9⟩ := hSw; obtain ⟨lt, c0, c1, c2, c3⟩ := s9.cells; obtain ⟨fT0, fT1⟩ := T9.both; obtain ⟨fU0, fU1⟩ := U9.both; go_simp <;> with_reducible rfl))
            try simp only [Act.put, List.setIfInBounds_toArray, List.set_cons_zero, List.set_cons_succ]
            refine wpAnyH_take (i := 48) (oi := { dst := some 95, op := Op.load 25 (Operand.tmp 2), type := 25, pos := "law.go:97", after := #[{ on := 47, ground := Ground.guard }], guard := some (47, false) }) (v := ?_) rfl (by kernel_rfl) (by kernel_rfl) (by kernel_rfl) (fun _ _ _ h => h) (Or.inl ⟨by rfl, ?_⟩) (by trivial) ?_
            rotate_left
            (focus (intro w9 hSw; obtain ⟨s9, T9, U9⟩ := hSw; obtain ⟨lt, c0, c1, c2, c3⟩ := s9.cells; obtain ⟨fT0, fT1⟩ := T9.both; obtain ⟨fU0, fU1⟩ := U9.both; go_simp <;> with_reducible rfl))
            try simp only [Act.put, List.setIfInBounds_toArray, List.set_cons_zero, List.set_cons_succ]
            refine wpAnyH_take (i := 49) (oi := { dst := some 96, op := Op.fieldAddr 29 (Operand.tmp 7) 0, type := 0, pos := "law.go:97", after := #[{ on := 47, ground := Ground.guard }], guard := some (47, false) }) (v := ?_) rfl (by kernel_rfl) (by kernel_rfl) (by kernel_rfl) (fun _ _ _ h => h) (Or.inl ⟨by rfl, ?_⟩) (by trivial) ?_
            rotate_left
            (focus (intro w9 hSw; obtain ⟨s9, T9, U9⟩ := hSw; obtain ⟨lt, c0, c1, c2, c3⟩ := s9.cells; obtain ⟨fT0, fT1⟩ := T9.both; obtain ⟨fU0, fU1⟩ := U9.both; go_simp <;> with_reducible rfl))
            try simp only [Act.put, List.setIfInBounds_toArray, List.set_cons_zero, List.set_cons_succ]
            refine wpAnyH_take (i := 50) (oi := { dst := some 97, op := Op.load 3 (Operand.tmp 96), type := 3, pos := "law.go:97", after := #[{ on := 49, ground := Ground.data }, { on := 47, ground := Ground.guard }], guard := some (47, false) }) (v := ?_) rfl (by kernel_rfl) (by kernel_rfl) (by kernel_rfl) (fun _ _ _ h => h) (Or.inl ⟨by rfl, ?_⟩) (by trivial) ?_
            rotate_left
            (focus (intro w9 hSw; obtain ⟨s9, T9, U9⟩ := hSw; obtain ⟨lt, c0, c1, c2, c3⟩ := s9.cells; obtain ⟨fT0, fT1⟩ := T9.both; obtain ⟨fU0, fU1⟩ := U9.both; go_simp <;> with_reducible rfl))
            try simp only [Act.put, List.setIfInBounds_toArray, List.set_cons_zero, List.set_cons_succ]
            refine wpAnyH_take (i := 51) (oi := { dst := some 98, op := Op.binOp BinOp.sub 3 (Operand.tmp 97) (Operand.const (Value.int IntKind.i64 1)) 3, type := 3, pos := "law.go:97", after := #[{ on := 50, ground := Ground.data }, { on := 47, ground := Ground.guard }], guard := some (47, false) }) (v := ?_) rfl (by kernel_rfl) (by kernel_rfl) (by kernel_rfl) (fun _ _ _ h => h) (Or.inl ⟨by rfl, ?_⟩) (by trivial) ?_
            rotate_left
            (focus (intro w9 hSw; obtain ⟨s9, T9, U9⟩ := hSw; obtain ⟨lt, c0, c1, c2, c3⟩ := s9.cells; obtain ⟨fT0, fT1⟩ := T9.both; obtain ⟨fU0, fU1⟩ := U9.both; go_simp <;> with_reducible rfl))
            try simp only [Act.put, List.setIfInBounds_toArray, List.set_cons_zero, List.set_cons_succ]
            refine wpAnyH_take (i := 53) (oi := { dst := some 100, op := Op.move (Operand.tmp 9), type := 3, pos := "law.go:97", after := #[{ on := 47, ground := Ground.guard }], guard := some (47, false) }) (v := ?_) rfl (by kernel_rfl) (by kernel_rfl) (by kernel_rfl) (fun _ _ _ h => h) (Or.inl ⟨by rfl, ?_⟩) (by trivial) ?_
            rotate_left
            (focus (intro w9 hSw; obtain ⟨s9, T9, U9⟩ := hSw; obtain ⟨lt, c0, c1, c2, c3⟩ := s9.cells; obtain ⟨fT0, fT1⟩ := T9.both; obtain ⟨fU0, fU1⟩ := U9.both; go_simp <;> with_reducible rfl))
            try simp only [Act.put, List.setIfInBounds_toArray, List.set_cons_zero, List.set_cons_succ]
            refine wpAnyH_ready (rs := [52]) (by kernel_rfl) (by simp) ?_
            refine AllReadyH.cons (o := { dst := some 99, op := Op.call { callee := Callee.value (Operand.func 20), args := #[Operand.tmp 95, Operand.tmp 98], argTypes := #[25, 3] }, type := 3, pos := "law.go:97", after := #[{ on := 48, ground := Ground.data }, { on := 51, ground := Ground.data }, { on := 47, ground := Ground.chain }, { on := 47, ground := Ground.guard }], guard := some (47, false) }) rfl (fun K hK => ?_) AllReadyH.nil
            go_simp
            refine (zoffset_any s.z s.le).mono ?_
            rintro e wz ⟨o, rfl, bb, ho, -⟩
            replace T := T.below bb T.lt
            replace U := U.below bb U.lt
            replace s := s.step bb
            clear bb dT0 dT1 dU0 dU1 lt c0 c1 c2 c3
            obtain ⟨lt, c0, c1, c2, c3⟩ := s.cells
            replace ho := ((ho ⟨⟨by omega, by omega⟩, qm0.out⟩).uniq hS ⟨_, hr.out.carry hq.out (by omega) (by rintro x hx; injection hx with hx; subst hx; omega), rfl⟩).symm
            simp only [offOf] at ho
            subst ho
            obtain ⟨dT0, dT1⟩ := T.both
            obtain ⟨dU0, dU1⟩ := U.both
            go_wp2_with fail
            refine hK.out _ _ ⟨s, T, U⟩ (fun _ => ?_)
            clear hK K
            try simp only [Act.put, List.setIfInBounds_toArray, List.set_cons_zero, List.set_cons_succ]
            refine wpAnyH_take (i := 54) (oi := { dst := some 101, op := Op.binOp BinOp.neq 3 (Operand.tmp 99) (Operand.tmp 100) 3, type := 4, pos := "law.go:97", after := #[{ on := 52, ground := Ground.data }, { on := 53, ground := Ground.data }, { on := 47, ground := Ground.guard }], guard := some (47, false) }) (v := ?_) rfl (by kernel_rfl) (by kernel_rfl) (by kernel_rfl) (fun _ _ _ h => h) (Or.inl ⟨by rfl, ?_⟩) (by trivial) ?_
            rotate_left
            (focus (intro w9 hSw; obtain ⟨s9, T9, U9⟩ := hSw; obtain ⟨lt, c0, c1, c2, c3⟩ := s9.cells; obtain ⟨fT0, fT1⟩ := T9.both; obtain ⟨fU0, fU1⟩ := U9.both; go_simp <;> with_reducible rfl))
            try simp only [Act.put, List.setIfInBounds_toArray, List.set_cons_zero, List.set_cons_succ]
            refine wpAnyH_take (i := 55) (oi := { dst := some 102, op := Op.pick (Operand.tmp 94) (Operand.const (Value.bool true)) (Operand.tmp 101), type := 4, pos := "law.go:97", after := #[{ on := 47, ground := Ground.data }, { on := 54, ground := Ground.data }, { on := 33, ground := Ground.guard }], guard := some (33, true) }) (v := ?_) rfl (by kernel_rfl) (by kernel_rfl) (by kernel_rfl) (fun _ _ _ h => h) (Or.inl ⟨by rfl, ?_⟩) (by trivial) ?_
            rotate_left
            (focus (intro w9 hSw; obtain ⟨s9, T9, U9⟩ := hSw; obtain ⟨lt, c0, c1, c2, c3⟩ := s9.cells; obtain ⟨fT0, fT1⟩ := T9.both; obtain ⟨fU0, fU1⟩ := U9.both; go_simp <;> with_reducible rfl))
            try simp only [Act.put, List.setIfInBounds_toArray, List.set_cons_zero, List.set_cons_succ]
            refine wpAnyH_take (i := 56) (oi := { dst := some 103, op := Op.pick (Operand.tmp 80) (Operand.tmp 102) (Operand.const (Value.bool false)), type := 4, pos := "law.go:97", after := #[{ on := 33, ground := Ground.data }, { on := 55, ground := Ground.data }, { on := 31, ground := Ground.guard }], guard := some (31, false) }) (v := ?_) rfl (by kernel_rfl) (by kernel_rfl) (by kernel_rfl) (fun _ _ _ h => h) (Or.inl ⟨by rfl, ?_⟩) (by trivial) ?_
            rotate_left
            (focus (intro w9 hSw; obtain ⟨s9, T9, U9⟩ := hSw; obtain ⟨lt, c0, c1, c2, c3⟩ := s9.cells; obtain ⟨fT0, fT1⟩ := T9.both; obtain ⟨fU0, fU1⟩ := U9.both; go_simp <;> with_reducible rfl))
            try simp only [Act.put, List.setIfInBounds_toArray, List.set_cons_zero, List.set_cons_succ]
            refine wpAnyH_take (i := 57) (oi := { dst := some 104, op := Op.pick (Operand.tmp 78) (Operand.const (Value.bool true)) (Operand.tmp 103), type := 4, pos := "law.go:97", after := #[{ on := 31, ground := Ground.data }, { on := 56, ground := Ground.data }], guard := none }) (v := ?_) rfl (by kernel_rfl) (by kernel_rfl) (by kernel_rfl) (fun _ _ _ h => h) (Or.inl ⟨by rfl, ?_⟩) (by trivial) ?_
            rotate_left
            (focus (intro w9 hSw; obtain ⟨s9, T9, U9⟩ := hSw; obtain ⟨lt, c0, c1, c2, c3⟩ := s9.cells; obtain ⟨fT0, fT1⟩ := T9.both; obtain ⟨fU0, fU1⟩ := U9.both; go_simp <;> with_reducible rfl))
            try simp only [Act.put, List.setIfInBounds_toArray, List.set_cons_zero, List.set_cons_succ]
            refine wpAnyH_done (by kernel_rfl) ?_ _
            go_wp2_with fail
            refine (first_any _).mono ?_
            rintro e wz ⟨rfl, bb⟩
            replace T := T.below bb T.lt
            replace U := U.below bb U.lt
            replace s := s.step bb
            clear bb dT0 dT1 dU0 dU1 lt c0 c1 c2 c3
            obtain ⟨lt, c0, c1, c2, c3⟩ := s.cells
            obtain ⟨dT0, dT1⟩ := T.both
            obtain ⟨dU0, dU1⟩ := U.both
            go_wp2_with fail
            refine (local_any s.z s.le).mono ?_
            rintro e wz ⟨l, rfl, bb, hl, -⟩
            replace T := T.below bb T.lt
            replace U := U.below bb U.lt
            replace s := s.step bb
            clear bb dT0 dT1 dU0 dU1 lt c0 c1 c2 c3
            obtain ⟨lt, c0, c1, c2, c3⟩ := s.cells
            replace hl := (hl ⟨qt0.out, qm0.out⟩).uniq hS ⟨_, hr.out, rfl⟩
            simp only [offOf] at hl
            obtain rfl : l = u + a.off := by omega
            clear hl
            obtain ⟨dT0, dT1⟩ := T.both
            obtain ⟨dU0, dU1⟩ := U.both
            go_wp2_with fail
            go_ret
            exact ⟨rfl, s.b⟩
      · have tt := decide_eq_false qt
        go_enter Try.func7, Try.ntmps7
        go_wp2_with fail
        have s : St w (w.alloc (zo bs A L.length c A' Y.length c' fr)) w.heap.size bs A c A' c' fr L Y := St.new_ hz
        generalize w.alloc (zo bs A L.length c A' Y.length c' fr) = w1 at s ⊢
        obtain ⟨lt, c0, c1, c2, c3⟩ := s.cells
        refine (first_any _).mono ?_
        rintro e wz ⟨rfl, bb⟩
        replace s := s.step bb
        clear bb lt c0 c1 c2 c3
        obtain ⟨lt, c0, c1, c2, c3⟩ := s.cells
        go_wp2_with fail
        refine (few_any).mono ?_
        rintro e wz ⟨rfl, bb⟩
        replace s := s.step bb
        clear bb lt c0 c1 c2 c3
        obtain ⟨lt, c0, c1, c2, c3⟩ := s.cells
        rw [ft]
        go_wp2_with fail
        refine (mayZone_any bs A c A' c' fr L Y w.heap.size _ s.z.s s.z.y s.le s.z.l s.z.l').mono ?_
        rintro e wz ⟨rfl, bb⟩
        replace s := s.step bb
        clear bb lt c0 c1 c2 c3
        obtain ⟨lt, c0, c1, c2, c3⟩ := s.cells
        rw [mt]
        go_wp2_with fail
        refine (may_any u _).mono ?_
        rintro e wz ⟨rfl, rfl⟩
        rw [tt]
        go_wp2_with fail
        refine (first_any _).mono ?_
        rintro e wz ⟨rfl, bb⟩
        replace s := s.step bb
        clear bb lt c0 c1 c2 c3
        obtain ⟨lt, c0, c1, c2, c3⟩ := s.cells
        go_wp2_with fail
        refine (zoffset_any s.z s.le).mono ?_
        rintro e wz ⟨o, rfl, bb, -, ho⟩
        replace s := s.step bb
        clear bb lt c0 c1 c2 c3
        obtain ⟨lt, c0, c1, c2, c3⟩ := s.cells
        obtain rfl := ho fun h => qt h.1
        go_wp2_with fail
        go_ret
        exact ⟨rfl, s.b⟩
    · have mt := mayZB_no qm
      go_enter Try.func7, Try.ntmps7
      go_wp2_with fail
      have s : St w (w.alloc (zo bs A L.length c A' Y.length c' fr)) w.heap.size bs A c A' c' fr L Y := St.new_ hz
      generalize w.alloc (zo bs A L.length c A' Y.length c' fr) = w1 at s ⊢
      obtain ⟨lt, c0, c1, c2, c3⟩ := s.cells
      refine (first_any _).mono ?_
      rintro e wz ⟨rfl, bb⟩
      replace s := s.step bb
      clear bb lt c0 c1 c2 c3
      obtain ⟨lt, c0, c1, c2, c3⟩ := s.cells
      go_wp2_with fail
      refine (few_any).mono ?_
      rintro e wz ⟨rfl, bb⟩
      replace s := s.step bb
      clear bb lt c0 c1 c2 c3
      obtain ⟨lt, c0, c1, c2, c3⟩ := s.cells
      rw [ft]
      go_wp2_with fail
      refine (mayZone_any bs A c A' c' fr L Y w.heap.size _ s.z.s s.z.y s.le s.z.l s.z.l').mono ?_
      rintro e wz ⟨rfl, bb⟩
      replace s := s.step bb
      clear bb lt c0 c1 c2 c3
      obtain ⟨lt, c0, c1, c2, c3⟩ := s.cells
      rw [mt]
      go_wp2_with fail
      refine (first_any _).mono ?_
      rintro e wz ⟨rfl, bb⟩
      replace s := s.step bb
      clear bb lt c0 c1 c2 c3
      obtain ⟨lt, c0, c1, c2, c3⟩ := s.cells
      go_wp2_with fail
      refine (zoffset_any s.z s.le).mono ?_
      rintro e wz ⟨o, rfl, bb, -, ho⟩
      replace s := s.step bb
      clear bb lt c0 c1 c2 c3
      obtain ⟨lt, c0, c1, c2, c3⟩ := s.cells
      obtain rfl := ho fun h => qm h.2
      go_wp2_with fail
      go_ret
      exact ⟨rfl, s.b⟩
  · have ft := decide_eq_false qf
    go_enter Try.func7, Try.ntmps7
    go_wp2_with fail
    have s : St w (w.alloc (zo bs A L.length c A' Y.length c' fr)) w.heap.size bs A c A' c' fr L Y := St.new_ hz
    generalize w.alloc (zo bs A L.length c A' Y.length c' fr) = w1 at s ⊢
    obtain ⟨lt, c0, c1, c2, c3⟩ := s.cells
    refine (first_any _).mono ?_
    rintro e wz ⟨rfl, bb⟩
    replace s := s.step bb
    clear bb lt c0 c1 c2 c3
    obtain ⟨lt, c0, c1, c2, c3⟩ := s.cells
    go_wp2_with fail
    refine (few_any).mono ?_
    rintro e wz ⟨rfl, bb⟩
    replace s := s.step bb
    clear bb lt c0 c1 c2 c3
    obtain ⟨lt, c0, c1, c2, c3⟩ := s.cells
    rw [ft]
    go_wp2_with fail
    refine (first_any _).mono ?_
    rintro e wz ⟨rfl, bb⟩
    replace s := s.step bb
    clear bb lt c0 c1 c2 c3
    obtain ⟨lt, c0, c1, c2, c3⟩ := s.cells
    go_wp2_with fail
    refine (zoffset_any s.z s.le).mono ?_
    rintro e wz ⟨o, rfl, bb, -, ho⟩
    replace s := s.step bb
    clear bb lt c0 c1 c2 c3
    obtain ⟨lt, c0, c1, c2, c3⟩ := s.cells
    obtain rfl := ho fun h => qf h.2.few
    go_wp2_with fail
    go_ret
    exact ⟨rfl, s.b⟩
end Go.Proofs.Ytbnchbcdgffkaaa
