/- voklaw3.ZoneYears. -/
import Derived.Test.YtbnchbcdgffkaaaSt
import Derived.Deep.RegionHeld3
import Derived.Deep.DrawnRows
namespace Go.Proofs.Ytbnchbcdgffkaaa
open Go.RowKit
set_option linter.unusedVariables false
theorem Two.both {w : World} {p : Nat} {a b : Int} (h : Two w p a b) : w.cell? ⟨p, 0, none⟩ = some (.int .i64 a) ∧ w.cell? ⟨p, 1, none⟩ = some (.int .i64 b) := ⟨h.c0, h.c1⟩
theorem Two.drew {w : World} {p : Nat} {a b : Int} (h : Two w p a b) : Two w.drew p a b := ⟨h.blk⟩
set_option maxRecDepth 100000 in
set_option maxHeartbeats 4000000 in
theorem zoneYears_true {bs : Int} {A A' : Option Addr} {c c' : Nat} {fr : Int} {L : List Sh} {Y : List Yr} {u : Int} {w : World} (hz : ZAt w w.heap.size A A' L Y) :
    Calls Try.prog 11 #[zv bs A L.length c A' Y.length c' fr, .int .i64 u] w fun e w' => e = .returned (.bool true) ∧ Below w.heap.size w w' := by
  by_cases qf : L.length ≤ 400 ∧ Y.length ≤ 400
  · have ft := decide_eq_true qf
    by_cases qm : MayZ bs L Y fr
    · have mt := mayZB_yes qm
      by_cases y0 : Y.length = 0
      · obtain rfl : Y = [] := List.length_eq_zero_iff.mp y0
        clear y0
        replace ft : decide (L.length ≤ 400 ∧ 0 ≤ 400) = true := ft
        go_enter Try.func11, Try.ntmps11
        go_wp2_with fail
        have s : St w (w.alloc (zo bs A L.length c A' 0 c' fr)) w.heap.size bs A c A' c' fr L [] := St.new_ hz
        generalize w.alloc (zo bs A L.length c A' 0 c' fr) = w1 at s ⊢
        obtain ⟨lt, c0, c1, c2, c3⟩ := s.cells
        refine (first_any _).mono ?_
        rintro e wz ⟨rfl, bb⟩
        replace s := s.step bb
        clear bb lt c0 c1 c2 c3
        obtain ⟨lt, c0, c1, c2, c3⟩ := s.cells
        go_wp2_with fail
        refine (few_any).mono ?_
        rintro e wz ⟨rfl, bb⟩
        replace s := s.step bb
        clear bb lt c0 c1 c2 c3
        obtain ⟨lt, c0, c1, c2, c3⟩ := s.cells
        rw [ft]
        go_wp2_with fail
        refine (mayZone_any bs A c A' c' fr L [] w.heap.size _ s.z.s s.z.y s.le s.z.l s.z.l').mono ?_
        rintro e wz ⟨rfl, bb⟩
        replace s := s.step bb
        clear bb lt c0 c1 c2 c3
        obtain ⟨lt, c0, c1, c2, c3⟩ := s.cells
        rw [mt]
        go_wp2_with fail
        refine (first_any _).mono ?_
        rintro e wz ⟨rfl, bb⟩
        replace s := s.step bb
        clear bb lt c0 c1 c2 c3
        obtain ⟨lt, c0, c1, c2, c3⟩ := s.cells
        go_wp2_with fail
        go_ret
        exact ⟨rfl, s.b⟩
      · have y0t : ((Y.length : Int) == 0) = false := by rw [beq_eq_false_iff_ne]; omega
        replace y0 := Lib.hid y0
        by_cases l0 : 0 < L.length
        · have l0t : decide (0 < (L.length : Int)) = true := decide_eq_true (by omega)
          have l0x := Lib.hid l0
          go_enter Try.func11, Try.ntmps11
          go_wp2_with fail
          have s : St w (w.alloc (zo bs A L.length c A' Y.length c' fr)) w.heap.size bs A c A' c' fr L Y := St.new_ hz
          generalize w.alloc (zo bs A L.length c A' Y.length c' fr) = w1 at s ⊢
          obtain ⟨lt, c0, c1, c2, c3⟩ := s.cells
          refine (first_any _).mono ?_
          rintro e wz ⟨rfl, bb⟩
          replace s := s.step bb
          clear bb lt c0 c1 c2 c3
          obtain ⟨lt, c0, c1, c2, c3⟩ := s.cells
          go_wp2_with fail
          refine (few_any).mono ?_
          rintro e wz ⟨rfl, bb⟩
          replace s := s.step bb
          clear bb lt c0 c1 c2 c3
          obtain ⟨lt, c0, c1, c2, c3⟩ := s.cells
          rw [ft]
          go_wp2_with fail
          refine (mayZone_any bs A c A' c' fr L Y w.heap.size _ s.z.s s.z.y s.le s.z.l s.z.l').mono ?_
          rintro e wz ⟨rfl, bb⟩
          replace s := s.step bb
          clear bb lt c0 c1 c2 c3
          obtain ⟨lt, c0, c1, c2, c3⟩ := s.cells
          rw [mt]
          go_wp2_with fail
          refine (first_any _).mono ?_
          rintro e wz ⟨rfl, bb⟩
          replace s := s.step bb
          clear bb lt c0 c1 c2 c3
          obtain ⟨lt, c0, c1, c2, c3⟩ := s.cells
          go_wp2_with fail
          go_ret
          exact ⟨rfl, s.b⟩
        · obtain rfl : L = [] := List.length_eq_zero_iff.mp (by omega)
          clear l0
          replace ft : decide (0 ≤ 400 ∧ Y.length ≤ 400) = true := ft
          by_cases f0 : 9000 < fr
          · have f0t := decide_eq_true f0
            go_enter Try.func11, Try.ntmps11
            go_wp2_with fail
            have s : St w (w.alloc (zo bs A 0 c A' Y.length c' fr)) w.heap.size bs A c A' c' fr [] Y := St.new_ hz
            generalize w.alloc (zo bs A 0 c A' Y.length c' fr) = w1 at s ⊢
            obtain ⟨lt, c0, c1, c2, c3⟩ := s.cells
            refine (first_any _).mono ?_
            rintro e wz ⟨rfl, bb⟩
            replace s := s.step bb
            clear bb lt c0 c1 c2 c3
            obtain ⟨lt, c0, c1, c2, c3⟩ := s.cells
            go_wp2_with fail
            refine (few_any).mono ?_
            rintro e wz ⟨rfl, bb⟩
            replace s := s.step bb
            clear bb lt c0 c1 c2 c3
            obtain ⟨lt, c0, c1, c2, c3⟩ := s.cells
            rw [ft]
            go_wp2_with fail
            refine (mayZone_any bs A c A' c' fr [] Y w.heap.size _ s.z.s s.z.y s.le s.z.l s.z.l').mono ?_
            rintro e wz ⟨rfl, bb⟩
            replace s := s.step bb
            clear bb lt c0 c1 c2 c3
            obtain ⟨lt, c0, c1, c2, c3⟩ := s.cells
            rw [mt]
            go_wp2_with fail
            refine (first_any _).mono ?_
            rintro e wz ⟨rfl, bb⟩
            replace s := s.step bb
            clear bb lt c0 c1 c2 c3
            obtain ⟨lt, c0, c1, c2, c3⟩ := s.cells
            go_wp2_with fail
            go_ret
            exact ⟨rfl, s.b⟩
          · have f0t := decide_eq_false f0
            by_cases qt : MayT u
            · have tt := decide_eq_true qt
              obtain ⟨u1, u2⟩ := qt
              have qt : MayT u := ⟨u1, u2⟩
              have zw : IntKind.i64.wrap (u + 12622780800) = u + 12622780800 := wi64 (by omega) (by omega)
              by_cases qc : MayT (u + 12622780800)
              · have ct := decide_eq_true qc
                go_enter Try.func11, Try.ntmps11
                go_wp2_with fail
                have s : St w (w.alloc (zo bs A 0 c A' Y.length c' fr)) w.heap.size bs A c A' c' fr [] Y := St.new_ hz
                generalize w.alloc (zo bs A 0 c A' Y.length c' fr) = w1 at s ⊢
                obtain ⟨lt, c0, c1, c2, c3⟩ := s.cells
                refine (first_any _).mono ?_
                rintro e wz ⟨rfl, bb⟩
                replace s := s.step bb
                clear bb lt c0 c1 c2 c3
                obtain ⟨lt, c0, c1, c2, c3⟩ := s.cells
                go_wp2_with fail
                refine (few_any).mono ?_
                rintro e wz ⟨rfl, bb⟩
                replace s := s.step bb
                clear bb lt c0 c1 c2 c3
                obtain ⟨lt, c0, c1, c2, c3⟩ := s.cells
                rw [ft]
                go_wp2_with fail
                refine (mayZone_any bs A c A' c' fr [] Y w.heap.size _ s.z.s s.z.y s.le s.z.l s.z.l').mono ?_
                rintro e wz ⟨rfl, bb⟩
                replace s := s.step bb
                clear bb lt c0 c1 c2 c3
                obtain ⟨lt, c0, c1, c2, c3⟩ := s.cells
                rw [mt]
                go_wp2_with fail
                refine (may_any u _).mono ?_
                rintro e wz ⟨rfl, rfl⟩
                rw [tt]
                go_wp2_with fail
                refine (may_any (u + 12622780800) _).mono ?_
                rintro e wz ⟨rfl, rfl⟩
                rw [ct]
                go_wp2_with fail
                have hS := qm.ok.sep
                have qm0 := Lib.hid qm
                have qt0 := Lib.hid qt
                have qc0 := Lib.hid qc
                have hY : ∀ b, IsBef (IsShift [] Y fr) u (some b) → IsBef (IsShift [] Y fr) (u + 12622780800) (some ⟨b.at_ + 12622780800, b.off⟩) := fun b hb => years_law qm.ok qc hb
                refine (before_any s.z s.le).mono ?_
                rintro e wz ⟨r, rfl, bb, hr, -⟩
                replace s := s.step bb
                clear bb lt c0 c1 c2 c3
                obtain ⟨lt, c0, c1, c2, c3⟩ := s.cells
                replace hr := Lib.hid (hr ⟨qt, qm⟩)
                cases r with
                | none =>
                  clear hY
                  simp only [shv]
                  go_wp2_with fail
                  obtain ⟨pT, hpT⟩ : ∃ pT, pT = wz.heap.size := ⟨_, rfl⟩
                  have T := Two.new_ wz (0) (0) wz.heap.size rfl
                  replace s := s.alloc (.cells #[.int .i64 0, .int .i64 0] 29)
                  rw [← hpT] at T ⊢
                  clear hpT
                  generalize wz.alloc (.cells #[.int .i64 0, .int .i64 0] 29) = wy at s T ⊢
                  clear lt c0 c1 c2 c3
                  obtain ⟨lt, c0, c1, c2, c3⟩ := s.cells
                  obtain ⟨dT0, dT1⟩ := T.both
                  replace s := s.drew
                  replace T := T.drew
                  clear dT0 dT1 lt c0 c1 c2 c3
                  obtain ⟨lt, c0, c1, c2, c3⟩ := s.cells
                  obtain ⟨dT0, dT1⟩ := T.both
                  refine wp_region_held_drew (S := fun w9 => St w w9 w.heap.size bs A c A' c' fr [] Y ∧ Two w9 pT (0) (0)) (by kernel_rfl) ⟨s, T⟩ (fun _ => ?_)
                  refine wpAnyH_ready (rs := [0]) (by kernel_rfl) (by simp) ?_
                  refine AllReadyH.cons (o := { dst := some 56, op := Op.call { callee := Callee.value (Operand.func 12), args := #[], argTypes := #[] }, type := 4, pos := "extra.go:57", after := #[], guard := none }) rfl (fun K hK => ?_) AllReadyH.nil
                  go_simp
                  refine (first_any _).mono ?_
                  rintro e wz ⟨rfl, bb⟩
                  replace T := T.below bb T.lt
                  replace s := s.step bb
                  clear bb dT0 dT1 lt c0 c1 c2 c3
                  obtain ⟨lt, c0, c1, c2, c3⟩ := s.cells
                  obtain ⟨dT0, dT1⟩ := T.both
                  go_wp2_with fail
                  refine hK.out _ _ ⟨s, T⟩ (fun _ => ?_)
                  clear hK K
                  try simp only [Act.put, List.setIfInBounds_toArray, List.set_cons_zero, List.set_cons_succ]
                  refine wpAnyH_take (i := 1) (oi := { dst := some 57, op := Op.move (Operand.tmp 56), type := 4, pos := "extra.go:57", after := #[{ on := 0, ground := Ground.data }, { on := 0, ground := Ground.chain }], guard := none }) (v := ?_) rfl (by kernel_rfl) (by kernel_rfl) (by kernel_rfl) (fun _ _ _ h => h) (Or.inl ⟨by rfl, ?_⟩) (by trivial) ?_
                  rotate_left
                  (focus (intro w9 hSw; obtain ⟨s9, T9⟩ := hSw; obtain ⟨lt, c0, c1, c2, c3⟩ := s9.cells; obtain ⟨fT0, fT1⟩ := T9.both; go_simp <;> with_reducible rfl))
                  try simp only [Act.put, List.setIfInBounds_toArray, List.set_cons_zero, List.set_cons_succ]
                  refine wpAnyH_take (i := 2) (oi := { dst := some 58, op := Op.load 25 (Operand.tmp 2), type := 25, pos := "extra.go:57", after := #[{ on := 1, ground := Ground.guard }], guard := some (1, true) }) (v := ?_) rfl (by kernel_rfl) (by kernel_rfl) (by kernel_rfl) (fun _ _ _ h => h) (Or.inl ⟨by rfl, ?_⟩) (by trivial) ?_
                  rotate_left
                  (focus (intro w9 hSw; obtain ⟨s9, T9⟩ := hSw; obtain ⟨lt, c0, c1, c2, c3⟩ := s9.cells; obtain ⟨fT0, fT1⟩ := T9.both; go_simp <;> with_reducible rfl))
                  try simp only [Act.put, List.setIfInBounds_toArray, List.set_cons_zero, List.set_cons_succ]
                  refine wpAnyH_take (i := 3) (oi := { dst := some 59, op := Op.move (Operand.tmp 1), type := 3, pos := "extra.go:57", after := #[{ on := 1, ground := Ground.guard }], guard := some (1, true) }) (v := ?_) rfl (by kernel_rfl) (by kernel_rfl) (by kernel_rfl) (fun _ _ _ h => h) (Or.inl ⟨by rfl, ?_⟩) (by trivial) ?_
                  rotate_left
                  (focus (intro w9 hSw; obtain ⟨s9, T9⟩ := hSw; obtain ⟨lt, c0, c1, c2, c3⟩ := s9.cells; obtain ⟨fT0, fT1⟩ := T9.both; go_simp <;> with_reducible rfl))
                  try simp only [Act.put, List.setIfInBounds_toArray, List.set_cons_zero, List.set_cons_succ]
                  refine wpAnyH_take (i := 5) (oi := { dst := some 61, op := Op.fieldAddr 25 (Operand.tmp 2) 0, type := 0, pos := "extra.go:57", after := #[{ on := 1, ground := Ground.guard }], guard := some (1, true) }) (v := ?_) rfl (by kernel_rfl) (by kernel_rfl) (by kernel_rfl) (fun _ _ _ h => h) (Or.inl ⟨by rfl, ?_⟩) (by trivial) ?_
                  rotate_left
                  (focus (intro w9 hSw; obtain ⟨s9, T9⟩ := hSw; obtain ⟨lt, c0, c1, c2, c3⟩ := s9.cells; obtain ⟨fT0, fT1⟩ := T9.both; go_simp <;> with_reducible rfl))
                  try simp only [Act.put, List.setIfInBounds_toArray, List.set_cons_zero, List.set_cons_succ]
                  refine wpAnyH_take (i := 6) (oi := { dst := some 62, op := Op.load 3 (Operand.tmp 61), type := 3, pos := "extra.go:57", after := #[{ on := 5, ground := Ground.data }, { on := 1, ground := Ground.guard }], guard := some (1, true) }) (v := ?_) rfl (by kernel_rfl) (by kernel_rfl) (by kernel_rfl) (fun _ _ _ h => h) (Or.inl ⟨by rfl, ?_⟩) (by trivial) ?_
                  rotate_left
                  (focus (intro w9 hSw; obtain ⟨s9, T9⟩ := hSw; obtain ⟨lt, c0, c1, c2, c3⟩ := s9.cells; obtain ⟨fT0, fT1⟩ := T9.both; go_simp <;> with_reducible rfl))
                  try simp only [Act.put, List.setIfInBounds_toArray, List.set_cons_zero, List.set_cons_succ]
                  refine wpAnyH_ready (rs := [4]) (by kernel_rfl) (by simp) ?_
                  refine AllReadyH.cons (o := { dst := some 60, op := Op.call { callee := Callee.value (Operand.func 20), args := #[Operand.tmp 58, Operand.tmp 59], argTypes := #[25, 3] }, type := 3, pos := "extra.go:57", after := #[{ on := 2, ground := Ground.data }, { on := 3, ground := Ground.data }, { on := 1, ground := Ground.chain }, { on := 1, ground := Ground.guard }], guard := some (1, true) }) rfl (fun K hK => ?_) AllReadyH.nil
                  go_simp
                  refine (zoffset_any s.z s.le).mono ?_
                  rintro e wz ⟨o, rfl, bb, ho, -⟩
                  replace T := T.below bb T.lt
                  replace s := s.step bb
                  clear bb dT0 dT1 lt c0 c1 c2 c3
                  obtain ⟨lt, c0, c1, c2, c3⟩ := s.cells
                  replace ho := ((ho ⟨qt0.out, qm0.out⟩).uniq hS ⟨_, hr.out, rfl⟩).symm
                  simp only [offOf] at ho
                  subst ho
                  obtain ⟨dT0, dT1⟩ := T.both
                  go_wp2_with fail
                  refine hK.out _ _ ⟨s, T⟩ (fun _ => ?_)
                  clear hK K
                  try simp only [Act.put, List.setIfInBounds_toArray, List.set_cons_zero, List.set_cons_succ]
                  refine wpAnyH_take (i := 7) (oi := { dst := some 63, op := Op.binOp BinOp.eql 3 (Operand.tmp 60) (Operand.tmp 62) 3, type := 4, pos := "extra.go:57", after := #[{ on := 4, ground := Ground.data }, { on := 6, ground := Ground.data }, { on := 1, ground := Ground.guard }], guard := some (1, true) }) (v := ?_) rfl (by kernel_rfl) (by kernel_rfl) (by kernel_rfl) (fun _ _ _ h => h) (Or.inl ⟨by rfl, ?_⟩) (by trivial) ?_
                  rotate_left
                  (focus (intro w9 hSw; obtain ⟨s9, T9⟩ := hSw; obtain ⟨lt, c0, c1, c2, c3⟩ := s9.cells; obtain ⟨fT0, fT1⟩ := T9.both; go_simp <;> with_reducible rfl))
                  try simp only [Act.put, List.setIfInBounds_toArray, List.set_cons_zero, List.set_cons_succ]
                  refine wpAnyH_take (i := 8) (oi := { dst := some 64, op := Op.pick (Operand.tmp 57) (Operand.tmp 63) (Operand.const (Value.bool false)), type := 4, pos := "extra.go:57", after := #[{ on := 1, ground := Ground.data }, { on := 7, ground := Ground.data }], guard := none }) (v := ?_) rfl (by kernel_rfl) (by kernel_rfl) (by kernel_rfl) (fun _ _ _ h => h) (Or.inl ⟨by rfl, ?_⟩) (by trivial) ?_
                  rotate_left
                  (focus (intro w9 hSw; obtain ⟨s9, T9⟩ := hSw; obtain ⟨lt, c0, c1, c2, c3⟩ := s9.cells; obtain ⟨fT0, fT1⟩ := T9.both; go_simp <;> with_reducible rfl))
                  try simp only [Act.put, List.setIfInBounds_toArray, List.set_cons_zero, List.set_cons_succ]
                  refine wpAnyH_take (i := 9) (oi := { dst := some 4, op := Op.assign (Operand.tmp 64), type := 4, pos := "extra.go:57", after := #[{ on := 8, ground := Ground.data }, { on := 4, ground := Ground.chain }, { on := 0, ground := Ground.phase }, { on := 1, ground := Ground.phase }, { on := 2, ground := Ground.phase }, { on := 3, ground := Ground.phase }, { on := 4, ground := Ground.phase }, { on := 5, ground := Ground.phase }, { on := 6, ground := Ground.phase }, { on := 7, ground := Ground.phase }, { on := 8, ground := Ground.phase }], guard := none }) (v := ?_) rfl (by kernel_rfl) (by kernel_rfl) (by kernel_rfl) (fun _ _ _ h => h) (Or.inl ⟨by rfl, ?_⟩) (by trivial) ?_
                  rotate_left
                  (focus (intro w9 hSw; obtain ⟨s9, T9⟩ := hSw; obtain ⟨lt, c0, c1, c2, c3⟩ := s9.cells; obtain ⟨fT0, fT1⟩ := T9.both; go_simp <;> with_reducible rfl))
                  try simp only [Act.put, List.setIfInBounds_toArray, List.set_cons_zero, List.set_cons_succ]
                  refine wpAnyH_done (by kernel_rfl) ?_ _
                  go_wp2_with fail
                  go_ret
                  exact ⟨rfl, s.b⟩
                | some b =>
                  have a0 := hr.out.2.1
                  obtain ⟨a1, a2⟩ := shift_at qm0.out.ok hr.out.1
                  simp only [shv]
                  go_wp2_with fail
                  obtain ⟨pT, hpT⟩ : ∃ pT, pT = wz.heap.size := ⟨_, rfl⟩
                  have T := Two.new_ wz (b.at_) (b.off) wz.heap.size rfl
                  replace s := s.alloc (.cells #[.int .i64 b.at_, .int .i64 b.off] 29)
                  rw [← hpT] at T ⊢
                  clear hpT
                  generalize wz.alloc (.cells #[.int .i64 b.at_, .int .i64 b.off] 29) = wy at s T ⊢
                  clear lt c0 c1 c2 c3
                  obtain ⟨lt, c0, c1, c2, c3⟩ := s.cells
                  obtain ⟨dT0, dT1⟩ := T.both
                  refine (before_any s.z s.le).mono ?_
                  rintro e wz ⟨r2, rfl, bb, h2, -⟩
                  replace T := T.below bb T.lt
                  replace s := s.step bb
                  clear bb dT0 dT1 lt c0 c1 c2 c3
                  obtain ⟨lt, c0, c1, c2, c3⟩ := s.cells
                  replace h2 := (h2 ⟨qc, qm⟩).uniq hS (hY b hr.out)
                  subst h2
                  have h2 := Lib.hid (hY b hr.out)
                  clear hY
                  simp only [shv]
                  obtain ⟨dT0, dT1⟩ := T.both
                  have zb : IntKind.i64.wrap (b.at_ + 12622780800 - b.at_) = 12622780800 := by rw [show b.at_ + 12622780800 - b.at_ = 12622780800 by omega]; exact wi64 (by omega) (by omega)
                  go_wp2_with fail
                  obtain ⟨pU, hpU⟩ : ∃ pU, pU = wz.heap.size := ⟨_, rfl⟩
                  replace T := T.below ((Below.refl _ _).alloc (Nat.le_refl _) (.cells #[.int .i64 (b.at_ + 12622780800), .int .i64 b.off] 29)) T.lt
                  have U := Two.new_ wz ((b.at_ + 12622780800)) (b.off) wz.heap.size rfl
                  replace s := s.alloc (.cells #[.int .i64 (b.at_ + 12622780800), .int .i64 b.off] 29)
                  rw [← hpU] at U ⊢
                  clear hpU
                  clear dT0 dT1
                  generalize wz.alloc (.cells #[.int .i64 (b.at_ + 12622780800), .int .i64 b.off] 29) = wy at s U T ⊢
                  clear lt c0 c1 c2 c3
                  obtain ⟨lt, c0, c1, c2, c3⟩ := s.cells
                  obtain ⟨dT0, dT1⟩ := T.both
                  obtain ⟨dU0, dU1⟩ := U.both
                  replace s := s.drew
                  replace T := T.drew
                  replace U := U.drew
                  clear dT0 dT1 dU0 dU1 lt c0 c1 c2 c3
                  obtain ⟨lt, c0, c1, c2, c3⟩ := s.cells
                  obtain ⟨dT0, dT1⟩ := T.both
                  obtain ⟨dU0, dU1⟩ := U.both
                  refine wp_region_held_drew (S := fun w9 => St w w9 w.heap.size bs A c A' c' fr [] Y ∧ Two w9 pT (b.at_) (b.off) ∧ Two w9 pU ((b.at_ + 12622780800)) (b.off)) (by kernel_rfl) ⟨s, T, U⟩ (fun _ => ?_)
                  refine wpAnyH_ready (rs := [0]) (by kernel_rfl) (by simp) ?_
                  refine AllReadyH.cons (o := { dst := some 72, op := Op.call { callee := Callee.value (Operand.func 12), args := #[], argTypes := #[] }, type := 4, pos := "extra.go:60", after := #[], guard := none }) rfl (fun K hK => ?_) AllReadyH.nil
                  go_simp
                  refine (first_any _).mono ?_
                  rintro e wz ⟨rfl, bb⟩
                  replace T := T.below bb T.lt
                  replace U := U.below bb U.lt
                  replace s := s.step bb
                  clear bb dT0 dT1 dU0 dU1 lt c0 c1 c2 c3
                  obtain ⟨lt, c0, c1, c2, c3⟩ := s.cells
                  obtain ⟨dT0, dT1⟩ := T.both
                  obtain ⟨dU0, dU1⟩ := U.both
                  go_wp2_with fail
                  refine hK.out _ _ ⟨s, T, U⟩ (fun _ => ?_)
                  clear hK K
                  try simp only [Act.put, List.setIfInBounds_toArray, List.set_cons_zero, List.set_cons_succ]
                  refine wpAnyH_take (i := 1) (oi := { dst := some 73, op := Op.move (Operand.tmp 72), type := 4, pos := "extra.go:60", after := #[{ on := 0, ground := Ground.data }, { on := 0, ground := Ground.chain }], guard := none }) (v := ?_) rfl (by kernel_rfl) (by kernel_rfl) (by kernel_rfl) (fun _ _ _ h => h) (Or.inl ⟨by rfl, ?_⟩) (by trivial) ?_
                  rotate_left
                  (focus (intro w9 hSw; obtain ⟨s9, T9, U9⟩ := hSw; obtain ⟨lt, c0, c1, c2, c3⟩ := s9.cells; obtain ⟨fT0, fT1⟩ := T9.both; obtain ⟨fU0, fU1⟩ := U9.both; go_simp <;> with_reducible rfl))
                  try simp only [Act.put, List.setIfInBounds_toArray, List.set_cons_zero, List.set_cons_succ]
                  refine wpAnyH_take (i := 2) (oi := { dst := some 74, op := Op.move (Operand.tmp 8), type := 4, pos := "extra.go:60", after := #[{ on := 1, ground := Ground.guard }], guard := some (1, true) }) (v := ?_) rfl (by kernel_rfl) (by kernel_rfl) (by kernel_rfl) (fun _ _ _ h => h) (Or.inl ⟨by rfl, ?_⟩) (by trivial) ?_
                  rotate_left
                  (focus (intro w9 hSw; obtain ⟨s9, T9, U9⟩ := hSw; obtain ⟨lt, c0, c1, c2, c3⟩ := s9.cells; obtain ⟨fT0, fT1⟩ := T9.both; obtain ⟨fU0, fU1⟩ := U9.both; go_simp <;> with_reducible rfl))
                  try simp only [Act.put, List.setIfInBounds_toArray, List.set_cons_zero, List.set_cons_succ]
                  refine wpAnyH_take (i := 3) (oi := { dst := some 75, op := Op.pick (Operand.tmp 73) (Operand.tmp 74) (Operand.const (Value.bool false)), type := 4, pos := "extra.go:60", after := #[{ on := 1, ground := Ground.data }, { on := 2, ground := Ground.data }], guard := none }) (v := ?_) rfl (by kernel_rfl) (by kernel_rfl) (by kernel_rfl) (fun _ _ _ h => h) (Or.inl ⟨by rfl, ?_⟩) (by trivial) ?_
                  rotate_left
                  (focus (intro w9 hSw; obtain ⟨s9, T9, U9⟩ := hSw; obtain ⟨lt, c0, c1, c2, c3⟩ := s9.cells; obtain ⟨fT0, fT1⟩ := T9.both; obtain ⟨fU0, fU1⟩ := U9.both; go_simp <;> with_reducible rfl))
                  try simp only [Act.put, List.setIfInBounds_toArray, List.set_cons_zero, List.set_cons_succ]
                  refine wpAnyH_take (i := 4) (oi := { dst := some 76, op := Op.move (Operand.tmp 75), type := 4, pos := "extra.go:60", after := #[{ on := 3, ground := Ground.data }, { on := 1, ground := Ground.chain }], guard := none }) (v := ?_) rfl (by kernel_rfl) (by kernel_rfl) (by kernel_rfl) (fun _ _ _ h => h) (Or.inl ⟨by rfl, ?_⟩) (by trivial) ?_
                  rotate_left
                  (focus (intro w9 hSw; obtain ⟨s9, T9, U9⟩ := hSw; obtain ⟨lt, c0, c1, c2, c3⟩ := s9.cells; obtain ⟨fT0, fT1⟩ := T9.both; obtain ⟨fU0, fU1⟩ := U9.both; go_simp <;> with_reducible rfl))
                  try simp only [Act.put, List.setIfInBounds_toArray, List.set_cons_zero, List.set_cons_succ]
                  refine wpAnyH_take (i := 5) (oi := { dst := some 77, op := Op.load 25 (Operand.tmp 2), type := 25, pos := "extra.go:60", after := #[{ on := 4, ground := Ground.guard }], guard := some (4, true) }) (v := ?_) rfl (by kernel_rfl) (by kernel_rfl) (by kernel_rfl) (fun _ _ _ h => h) (Or.inl ⟨by rfl, ?_⟩) (by trivial) ?_
                  rotate_left
                  (focus (intro w9 hSw; obtain ⟨s9, T9, U9⟩ := hSw; obtain ⟨lt, c0, c1, c2, c3⟩ := s9.cells; obtain ⟨fT0, fT1⟩ := T9.both; obtain ⟨fU0, fU1⟩ := U9.both; go_simp <;> with_reducible rfl))
                  try simp only [Act.put, List.setIfInBounds_toArray, List.set_cons_zero, List.set_cons_succ]
                  refine wpAnyH_take (i := 6) (oi := { dst := some 78, op := Op.move (Operand.tmp 1), type := 3, pos := "extra.go:60", after := #[{ on := 4, ground := Ground.guard }], guard := some (4, true) }) (v := ?_) rfl (by kernel_rfl) (by kernel_rfl) (by kernel_rfl) (fun _ _ _ h => h) (Or.inl ⟨by rfl, ?_⟩) (by trivial) ?_
                  rotate_left
                  (focus (intro w9 hSw; obtain ⟨s9, T9, U9⟩ := hSw; obtain ⟨lt, c0, c1, c2, c3⟩ := s9.cells; obtain ⟨fT0, fT1⟩ := T9.both; obtain ⟨fU0, fU1⟩ := U9.both; go_simp <;> with_reducible rfl))
                  try simp only [Act.put, List.setIfInBounds_toArray, List.set_cons_zero, List.set_cons_succ]
                  refine wpAnyH_take (i := 8) (oi := { dst := some 80, op := Op.load 25 (Operand.tmp 2), type := 25, pos := "extra.go:60", after := #[{ on := 4, ground := Ground.guard }], guard := some (4, true) }) (v := ?_) rfl (by kernel_rfl) (by kernel_rfl) (by kernel_rfl) (fun _ _ _ h => h) (Or.inl ⟨by rfl, ?_⟩) (by trivial) ?_
                  rotate_left
                  (focus (intro w9 hSw; obtain ⟨s9, T9, U9⟩ := hSw; obtain ⟨lt, c0, c1, c2, c3⟩ := s9.cells; obtain ⟨fT0, fT1⟩ := T9.both; obtain ⟨fU0, fU1⟩ := U9.both; go_simp <;> with_reducible rfl))
                  try simp only [Act.put, List.setIfInBounds_toArray, List.set_cons_zero, List.set_cons_succ]
                  refine wpAnyH_take (i := 9) (oi := { dst := some 81, op := Op.move (Operand.tmp 1), type := 3, pos := "extra.go:60", after := #[{ on := 4, ground := Ground.guard }], guard := some (4, true) }) (v := ?_) rfl (by kernel_rfl) (by kernel_rfl) (by kernel_rfl) (fun _ _ _ h => h) (Or.inl ⟨by rfl, ?_⟩) (by trivial) ?_
                  rotate_left
                  (focus (intro w9 hSw; obtain ⟨s9, T9, U9⟩ := hSw; obtain ⟨lt, c0, c1, c2, c3⟩ := s9.cells; obtain ⟨fT0, fT1⟩ := T9.both; obtain ⟨fU0, fU1⟩ := U9.both; go_simp <;> with_reducible rfl))
                  try simp only [Act.put, List.setIfInBounds_toArray, List.set_cons_zero, List.set_cons_succ]
                  refine wpAnyH_take (i := 10) (oi := { dst := some 82, op := Op.binOp BinOp.add 3 (Operand.tmp 81) (Operand.const (Value.int IntKind.i64 12622780800)) 3, type := 3, pos := "extra.go:60", after := #[{ on := 9, ground := Ground.data }, { on := 4, ground := Ground.guard }], guard := some (4, true) }) (v := ?_) rfl (by kernel_rfl) (by kernel_rfl) (by kernel_rfl) (fun _ _ _ h => h) (Or.inl ⟨by rfl, ?_⟩) (by trivial) ?_
                  rotate_left
                  (focus (intro w9 hSw; obtain ⟨s9, T9, U9⟩ := hSw; obtain ⟨lt, c0, c1, c2, c3⟩ := s9.cells; obtain ⟨fT0, fT1⟩ := T9.both; obtain ⟨fU0, fU1⟩ := U9.both; go_simp <;> with_reducible rfl))
                  try simp only [Act.put, List.setIfInBounds_toArray, List.set_cons_zero, List.set_cons_succ]
                  refine wpAnyH_ready (rs := [7]) (by kernel_rfl) (by simp) ?_
                  refine AllReadyH.cons (o := { dst := some 79, op := Op.call { callee := Callee.value (Operand.func 20), args := #[Operand.tmp 77, Operand.tmp 78], argTypes := #[25, 3] }, type := 3, pos := "extra.go:60", after := #[{ on := 5, ground := Ground.data }, { on := 6, ground := Ground.data }, { on := 4, ground := Ground.chain }, { on := 4, ground := Ground.guard }], guard := some (4, true) }) rfl (fun K hK => ?_) AllReadyH.nil
                  go_simp
                  refine (zoffset_any s.z s.le).mono ?_
                  rintro e wz ⟨o, rfl, bb, ho, -⟩
                  replace T := T.below bb T.lt
                  replace U := U.below bb U.lt
                  replace s := s.step bb
                  clear bb dT0 dT1 dU0 dU1 lt c0 c1 c2 c3
                  obtain ⟨lt, c0, c1, c2, c3⟩ := s.cells
                  replace ho := ((ho ⟨qt0.out, qm0.out⟩).uniq hS ⟨_, hr.out, rfl⟩).symm
                  simp only [offOf] at ho
                  subst ho
                  obtain ⟨dT0, dT1⟩ := T.both
                  obtain ⟨dU0, dU1⟩ := U.both
                  go_wp2_with fail
                  refine hK.out _ _ ⟨s, T, U⟩ (fun _ => ?_)
                  clear hK K
                  try simp only [Act.put, List.setIfInBounds_toArray, List.set_cons_zero, List.set_cons_succ]
                  refine wpAnyH_ready (rs := [11]) (by kernel_rfl) (by simp) ?_
                  refine AllReadyH.cons (o := { dst := some 83, op := Op.call { callee := Callee.value (Operand.func 20), args := #[Operand.tmp 80, Operand.tmp 82], argTypes := #[25, 3] }, type := 3, pos := "extra.go:60", after := #[{ on := 8, ground := Ground.data }, { on := 10, ground := Ground.data }, { on := 7, ground := Ground.chain }, { on := 4, ground := Ground.guard }], guard := some (4, true) }) rfl (fun K hK => ?_) AllReadyH.nil
                  go_simp
                  refine (zoffset_any s.z s.le).mono ?_
                  rintro e wz ⟨o, rfl, bb, ho, -⟩
                  replace T := T.below bb T.lt
                  replace U := U.below bb U.lt
                  replace s := s.step bb
                  clear bb dT0 dT1 dU0 dU1 lt c0 c1 c2 c3
                  obtain ⟨lt, c0, c1, c2, c3⟩ := s.cells
                  replace ho := ((ho ⟨qc0.out, qm0.out⟩).uniq hS ⟨_, h2.out, rfl⟩).symm
                  simp only [offOf] at ho
                  subst ho
                  obtain ⟨dT0, dT1⟩ := T.both
                  obtain ⟨dU0, dU1⟩ := U.both
                  go_wp2_with fail
                  refine hK.out _ _ ⟨s, T, U⟩ (fun _ => ?_)
                  clear hK K
                  try simp only [Act.put, List.setIfInBounds_toArray, List.set_cons_zero, List.set_cons_succ]
                  refine wpAnyH_take (i := 12) (oi := { dst := some 84, op := Op.binOp BinOp.eql 3 (Operand.tmp 79) (Operand.tmp 83) 3, type := 4, pos := "extra.go:60", after := #[{ on := 7, ground := Ground.data }, { on := 11, ground := Ground.data }, { on := 4, ground := Ground.guard }], guard := some (4, true) }) (v := ?_) rfl (by kernel_rfl) (by kernel_rfl) (by kernel_rfl) (fun _ _ _ h => h) (Or.inl ⟨by rfl, ?_⟩) (by trivial) ?_
                  rotate_left
                  (focus (intro w9 hSw; obtain ⟨s9, T9, U9⟩ := hSw; obtain ⟨lt, c0, c1, c2, c3⟩ := s9.cells; obtain ⟨fT0, fT1⟩ := T9.both; obtain ⟨fU0, fU1⟩ := U9.both; go_simp <;> with_reducible rfl))
                  try simp only [Act.put, List.setIfInBounds_toArray, List.set_cons_zero, List.set_cons_succ]
                  refine wpAnyH_take (i := 13) (oi := { dst := some 85, op := Op.pick (Operand.tmp 76) (Operand.tmp 84) (Operand.const (Value.bool false)), type := 4, pos := "extra.go:60", after := #[{ on := 4, ground := Ground.data }, { on := 12, ground := Ground.data }], guard := none }) (v := ?_) rfl (by kernel_rfl) (by kernel_rfl) (by kernel_rfl) (fun _ _ _ h => h) (Or.inl ⟨by rfl, ?_⟩) (by trivial) ?_
                  rotate_left
                  (focus (intro w9 hSw; obtain ⟨s9, T9, U9⟩ := hSw; obtain ⟨lt, c0, c1, c2, c3⟩ := s9.cells; obtain ⟨fT0, fT1⟩ := T9.both; obtain ⟨fU0, fU1⟩ := U9.both; go_simp <;> with_reducible rfl))
                  try simp only [Act.put, List.setIfInBounds_toArray, List.set_cons_zero, List.set_cons_succ]
                  refine wpAnyH_take (i := 14) (oi := { dst := some 86, op := Op.move (Operand.tmp 85), type := 4, pos := "extra.go:60", after := #[{ on := 13, ground := Ground.data }, { on := 11, ground := Ground.chain }], guard := none }) (v := ?_) rfl (by kernel_rfl) (by kernel_rfl) (by kernel_rfl) (fun _ _ _ h => h) (Or.inl ⟨by rfl, ?_⟩) (by trivial) ?_
                  rotate_left
                  (focus (intro w9 hSw; obtain ⟨s9, T9, U9⟩ := hSw; obtain ⟨lt, c0, c1, c2, c3⟩ := s9.cells; obtain ⟨fT0, fT1⟩ := T9.both; obtain ⟨fU0, fU1⟩ := U9.both; go_simp <;> with_reducible rfl))
                  try simp only [Act.put, List.setIfInBounds_toArray, List.set_cons_zero, List.set_cons_succ]
                  refine wpAnyH_take (i := 15) (oi := { dst := some 87, op := Op.fieldAddr 29 (Operand.tmp 7) 0, type := 0, pos := "extra.go:60", after := #[{ on := 14, ground := Ground.guard }], guard := some (14, true) }) (v := ?_) rfl (by kernel_rfl) (by kernel_rfl) (by kernel_rfl) (fun _ _ _ h => h) (Or.inl ⟨by rfl, ?_⟩) (by trivial) ?_
                  rotate_left
                  (focus (intro w9 hSw; obtain ⟨s9, T9, U9⟩ := hSw; obtain ⟨lt, c0, c1, c2, c3⟩ := s9.cells; obtain ⟨fT0, fT1⟩ := T9.both; obtain ⟨fU0, fU1⟩ := U9.both; go_simp <;> with_reducible rfl))
                  try simp only [Act.put, List.setIfInBounds_toArray, List.set_cons_zero, List.set_cons_succ]
                  refine wpAnyH_take (i := 16) (oi := { dst := some 88, op := Op.load 3 (Operand.tmp 87), type := 3, pos := "extra.go:60", after := #[{ on := 15, ground := Ground.data }, { on := 14, ground := Ground.guard }], guard := some (14, true) }) (v := ?_) rfl (by kernel_rfl) (by kernel_rfl) (by kernel_rfl) (fun _ _ _ h => h) (Or.inl ⟨by rfl, ?_⟩) (by trivial) ?_
                  rotate_left
                  (focus (intro w9 hSw; obtain ⟨s9, T9, U9⟩ := hSw; obtain ⟨lt, c0, c1, c2, c3⟩ := s9.cells; obtain ⟨fT0, fT1⟩ := T9.both; obtain ⟨fU0, fU1⟩ := U9.both; go_simp <;> with_reducible rfl))
                  try simp only [Act.put, List.setIfInBounds_toArray, List.set_cons_zero, List.set_cons_succ]
                  refine wpAnyH_take (i := 17) (oi := { dst := some 89, op := Op.fieldAddr 29 (Operand.tmp 5) 0, type := 0, pos := "extra.go:60", after := #[{ on := 14, ground := Ground.guard }], guard := some (14, true) }) (v := ?_) rfl (by kernel_rfl) (by kernel_rfl) (by kernel_rfl) (fun _ _ _ h => h) (Or.inl ⟨by rfl, ?_⟩) (by trivial) ?_
                  rotate_left
                  (focus (intro w9 hSw; obtain ⟨s9, T9, U9⟩ := hSw; obtain ⟨lt, c0, c1, c2, c3⟩ := s9.cells; obtain ⟨fT0, fT1⟩ := T9.both; obtain ⟨fU0, fU1⟩ := U9.both; go_simp <;> with_reducible rfl))
                  try simp only [Act.put, List.setIfInBounds_toArray, List.set_cons_zero, List.set_cons_succ]
                  refine wpAnyH_take (i := 18) (oi := { dst := some 90, op := Op.load 3 (Operand.tmp 89), type := 3, pos := "extra.go:60", after := #[{ on := 17, ground := Ground.data }, { on := 14, ground := Ground.guard }], guard := some (14, true) }) (v := ?_) rfl (by kernel_rfl) (by kernel_rfl) (by kernel_rfl) (fun _ _ _ h => h) (Or.inl ⟨by rfl, ?_⟩) (by trivial) ?_
                  rotate_left
                  (focus (intro w9 hSw; obtain ⟨s9, T9, U9⟩ := hSw; obtain ⟨lt, c0, c1, c2, c3⟩ := s9.cells; obtain ⟨fT0, fT1⟩ := T9.both; obtain ⟨fU0, fU1⟩ := U9.both; go_simp <;> with_reducible rfl))
                  try simp only [Act.put, List.setIfInBounds_toArray, List.set_cons_zero, List.set_cons_succ]
                  refine wpAnyH_take (i := 19) (oi := { dst := some 91, op := Op.binOp BinOp.sub 3 (Operand.tmp 88) (Operand.tmp 90) 3, type := 3, pos := "extra.go:60", after := #[{ on := 16, ground := Ground.data }, { on := 18, ground := Ground.data }, { on := 14, ground := Ground.guard }], guard := some (14, true) }) (v := ?_) rfl (by kernel_rfl) (by kernel_rfl) (by kernel_rfl) (fun _ _ _ h => h) (Or.inl ⟨by rfl, ?_⟩) (by trivial) ?_
                  rotate_left
                  (focus (intro w9 hSw; obtain ⟨s9, T9, U9⟩ := hSw; obtain ⟨lt, c0, c1, c2, c3⟩ := s9.cells; obtain ⟨fT0, fT1⟩ := T9.both; obtain ⟨fU0, fU1⟩ := U9.both; go_simp <;> with_reducible rfl))
                  try simp only [Act.put, List.setIfInBounds_toArray, List.set_cons_zero, List.set_cons_succ]
                  refine wpAnyH_take (i := 20) (oi := { dst := some 92, op := Op.binOp BinOp.eql 3 (Operand.tmp 91) (Operand.const (Value.int IntKind.i64 12622780800)) 3, type := 4, pos := "extra.go:60", after := #[{ on := 19, ground := Ground.data }, { on := 14, ground := Ground.guard }], guard := some (14, true) }) (v := ?_) rfl (by kernel_rfl) (by kernel_rfl) (by kernel_rfl) (fun _ _ _ h => h) (Or.inl ⟨by rfl, ?_⟩) (by trivial) ?_
                  rotate_left
                  (focus (intro w9 hSw; obtain ⟨s9, T9, U9⟩ := hSw; obtain ⟨lt, c0, c1, c2, c3⟩ := s9.cells; obtain ⟨fT0, fT1⟩ := T9.both; obtain ⟨fU0, fU1⟩ := U9.both; go_simp <;> with_reducible rfl))
                  try simp only [Act.put, List.setIfInBounds_toArray, List.set_cons_zero, List.set_cons_succ]
                  refine wpAnyH_take (i := 21) (oi := { dst := some 93, op := Op.pick (Operand.tmp 86) (Operand.tmp 92) (Operand.const (Value.bool false)), type := 4, pos := "extra.go:60", after := #[{ on := 14, ground := Ground.data }, { on := 20, ground := Ground.data }], guard := none }) (v := ?_) rfl (by kernel_rfl) (by kernel_rfl) (by kernel_rfl) (fun _ _ _ h => h) (Or.inl ⟨by rfl, ?_⟩) (by trivial) ?_
                  rotate_left
                  (focus (intro w9 hSw; obtain ⟨s9, T9, U9⟩ := hSw; obtain ⟨lt, c0, c1, c2, c3⟩ := s9.cells; obtain ⟨fT0, fT1⟩ := T9.both; obtain ⟨fU0, fU1⟩ := U9.both; go_simp <;> with_reducible rfl))
                  try simp only [Act.put, List.setIfInBounds_toArray, List.set_cons_zero, List.set_cons_succ]
                  refine wpAnyH_take (i := 22) (oi := { dst := some 94, op := Op.move (Operand.tmp 93), type := 4, pos := "extra.go:60", after := #[{ on := 21, ground := Ground.data }, { on := 14, ground := Ground.chain }], guard := none }) (v := ?_) rfl (by kernel_rfl) (by kernel_rfl) (by kernel_rfl) (fun _ _ _ h => h) (Or.inl ⟨by rfl, ?_⟩) (by trivial) ?_
                  rotate_left
                  (focus (intro w9 hSw; obtain ⟨s9, T9, U9⟩ := hSw; obtain ⟨lt, c0, c1, c2, c3⟩ := s9.cells; obtain ⟨fT0, fT1⟩ := T9.both; obtain ⟨fU0, fU1⟩ := U9.both; go_simp <;> with_reducible rfl))
                  try simp only [Act.put, List.setIfInBounds_toArray, List.set_cons_zero, List.set_cons_succ]
                  refine wpAnyH_take (i := 23) (oi := { dst := some 95, op := Op.fieldAddr 29 (Operand.tmp 7) 1, type := 0, pos := "extra.go:60", after := #[{ on := 22, ground := Ground.guard }], guard := some (22, true) }) (v := ?_) rfl (by kernel_rfl) (by kernel_rfl) (by kernel_rfl) (fun _ _ _ h => h) (Or.inl ⟨by rfl, ?_⟩) (by trivial) ?_
                  rotate_left
                  (focus (intro w9 hSw; obtain ⟨s9, T9, U9⟩ := hSw; obtain ⟨lt, c0, c1, c2, c3⟩ := s9.cells; obtain ⟨fT0, fT1⟩ := T9.both; obtain ⟨fU0, fU1⟩ := U9.both; go_simp <;> with_reducible rfl))
                  try simp only [Act.put, List.setIfInBounds_toArray, List.set_cons_zero, List.set_cons_succ]
                  refine wpAnyH_take (i := 24) (oi := { dst := some 96, op := Op.load 3 (Operand.tmp 95), type := 3, pos := "extra.go:60", after := #[{ on := 23, ground := Ground.data }, { on := 22, ground := Ground.guard }], guard := some (22, true) }) (v := ?_) rfl (by kernel_rfl) (by kernel_rfl) (by kernel_rfl) (fun _ _ _ h => h) (Or.inl ⟨by rfl, ?_⟩) (by trivial) ?_
                  rotate_left
                  (focus (intro w9 hSw; obtain ⟨s9, T9, U9⟩ := hSw; obtain ⟨lt, c0, c1, c2, c3⟩ := s9.cells; obtain ⟨fT0, fT1⟩ := T9.both; obtain ⟨fU0, fU1⟩ := U9.both; go_simp <;> with_reducible rfl))
                  try simp only [Act.put, List.setIfInBounds_toArray, List.set_cons_zero, List.set_cons_succ]
                  refine wpAnyH_take (i := 25) (oi := { dst := some 97, op := Op.fieldAddr 29 (Operand.tmp 5) 1, type := 0, pos := "extra.go:60", after := #[{ on := 22, ground := Ground.guard }], guard := some (22, true) }) (v := ?_) rfl (by kernel_rfl) (by kernel_rfl) (by kernel_rfl) (fun _ _ _ h => h) (Or.inl ⟨by rfl, ?_⟩) (by trivial) ?_
                  rotate_left
                  (focus (intro w9 hSw; obtain ⟨s9, T9, U9⟩ := hSw; obtain ⟨lt, c0, c1, c2, c3⟩ := s9.cells; obtain ⟨fT0, fT1⟩ := T9.both; obtain ⟨fU0, fU1⟩ := U9.both; go_simp <;> with_reducible rfl))
                  try simp only [Act.put, List.setIfInBounds_toArray, List.set_cons_zero, List.set_cons_succ]
                  refine wpAnyH_take (i := 26) (oi := { dst := some 98, op := Op.load 3 (Operand.tmp 97), type := 3, pos := "extra.go:60", after := #[{ on := 25, ground := Ground.data }, { on := 22, ground := Ground.guard }], guard := some (22, true) }) (v := ?_) rfl (by kernel_rfl) (by kernel_rfl) (by kernel_rfl) (fun _ _ _ h => h) (Or.inl ⟨by rfl, ?_⟩) (by trivial) ?_
                  rotate_left
                  (focus (intro w9 hSw; obtain ⟨s9, T9, U9⟩ := hSw; obtain ⟨lt, c0, c1, c2, c3⟩ := s9.cells; obtain ⟨fT0, fT1⟩ := T9.both; obtain ⟨fU0, fU1⟩ := U9.both; go_simp <;> with_reducible rfl))
                  try simp only [Act.put, List.setIfInBounds_toArray, List.set_cons_zero, List.set_cons_succ]
                  refine wpAnyH_take (i := 27) (oi := { dst := some 99, op := Op.binOp BinOp.eql 3 (Operand.tmp 96) (Operand.tmp 98) 3, type := 4, pos := "extra.go:60", after := #[{ on := 24, ground := Ground.data }, { on := 26, ground := Ground.data }, { on := 22, ground := Ground.guard }], guard := some (22, true) }) (v := ?_) rfl (by kernel_rfl) (by kernel_rfl) (by kernel_rfl) (fun _ _ _ h => h) (Or.inl ⟨by rfl, ?_⟩) (by trivial) ?_
                  rotate_left
                  (focus (intro w9 hSw; obtain ⟨s9, T9, U9⟩ := hSw; obtain ⟨lt, c0, c1, c2, c3⟩ := s9.cells; obtain ⟨fT0, fT1⟩ := T9.both; obtain ⟨fU0, fU1⟩ := U9.both; go_simp <;> with_reducible rfl))
                  try simp only [Act.put, List.setIfInBounds_toArray, List.set_cons_zero, List.set_cons_succ]
                  refine wpAnyH_take (i := 28) (oi := { dst := some 100, op := Op.pick (Operand.tmp 94) (Operand.tmp 99) (Operand.const (Value.bool false)), type := 4, pos := "extra.go:60", after := #[{ on := 22, ground := Ground.data }, { on := 27, ground := Ground.data }], guard := none }) (v := ?_) rfl (by kernel_rfl) (by kernel_rfl) (by kernel_rfl) (fun _ _ _ h => h) (Or.inl ⟨by rfl, ?_⟩) (by trivial) ?_
                  rotate_left
                  (focus (intro w9 hSw; obtain ⟨s9, T9, U9⟩ := hSw; obtain ⟨lt, c0, c1, c2, c3⟩ := s9.cells; obtain ⟨fT0, fT1⟩ := T9.both; obtain ⟨fU0, fU1⟩ := U9.both; go_simp <;> with_reducible rfl))
                  try simp only [Act.put, List.setIfInBounds_toArray, List.set_cons_zero, List.set_cons_succ]
                  refine wpAnyH_take (i := 29) (oi := { dst := some 4, op := Op.assign (Operand.tmp 100), type := 4, pos := "extra.go:60", after := #[{ on := 28, ground := Ground.data }, { on := 22, ground := Ground.chain }, { on := 0, ground := Ground.phase }, { on := 1, ground := Ground.phase }, { on := 2, ground := Ground.phase }, { on := 3, ground := Ground.phase }, { on := 4, ground := Ground.phase }, { on := 5, ground := Ground.phase }, { on := 6, ground := Ground.phase }, { on := 7, ground := Ground.phase }, { on := 8, ground := Ground.phase }, { on := 9, ground := Ground.phase }, { on := 10, ground := Ground.phase }, { on := 11, ground := Ground.phase }, { on := 12, ground := Ground.phase }, { on := 13, ground := Ground.phase }, { on := 14, ground := Ground.phase }, { on := 15, ground := Ground.phase }, { on := 16, ground := Ground.phase }, { on := 17, ground := Ground.phase }, { on := 18, ground := Ground.phase }, { on := 19, ground := Ground.phase }, { on := 20, ground := Ground.phase }, { on := 21, ground := Ground.phase }, { on := 22, ground := Ground.phase }, { on := 23, ground := Ground.phase }, { on := 24, ground := Ground.phase }, { on := 25, ground := Ground.phase }, { on := 26, ground := Ground.phase }, { on := 27, ground := Ground.phase }, { on := 28, ground := Ground.phase }], guard := none }) (v := ?_) rfl (by kernel_rfl) (by kernel_rfl) (by kernel_rfl) (fun _ _ _ h => h) (Or.inl ⟨by rfl, ?_⟩) (by trivial) ?_
                  rotate_left
                  (focus (intro w9 hSw; obtain ⟨s9, T9, U9⟩ := hSw; obtain ⟨lt, c0, c1, c2, c3⟩ := s9.cells; obtain ⟨fT0, fT1⟩ := T9.both; obtain ⟨fU0, fU1⟩ := U9.both; go_simp <;> with_reducible rfl))
                  try simp only [Act.put, List.setIfInBounds_toArray, List.set_cons_zero, List.set_cons_succ]
                  refine wpAnyH_done (by kernel_rfl) ?_ _
                  go_wp2_with fail
                  go_ret
                  exact ⟨rfl, s.b⟩
              · have ct := decide_eq_false qc
                go_enter Try.func11, Try.ntmps11
                go_wp2_with fail
                have s : St w (w.alloc (zo bs A 0 c A' Y.length c' fr)) w.heap.size bs A c A' c' fr [] Y := St.new_ hz
                generalize w.alloc (zo bs A 0 c A' Y.length c' fr) = w1 at s ⊢
                obtain ⟨lt, c0, c1, c2, c3⟩ := s.cells
                refine (first_any _).mono ?_
                rintro e wz ⟨rfl, bb⟩
                replace s := s.step bb
                clear bb lt c0 c1 c2 c3
                obtain ⟨lt, c0, c1, c2, c3⟩ := s.cells
                go_wp2_with fail
                refine (few_any).mono ?_
                rintro e wz ⟨rfl, bb⟩
                replace s := s.step bb
                clear bb lt c0 c1 c2 c3
                obtain ⟨lt, c0, c1, c2, c3⟩ := s.cells
                rw [ft]
                go_wp2_with fail
                refine (mayZone_any bs A c A' c' fr [] Y w.heap.size _ s.z.s s.z.y s.le s.z.l s.z.l').mono ?_
                rintro e wz ⟨rfl, bb⟩
                replace s := s.step bb
                clear bb lt c0 c1 c2 c3
                obtain ⟨lt, c0, c1, c2, c3⟩ := s.cells
                rw [mt]
                go_wp2_with fail
                refine (may_any u _).mono ?_
                rintro e wz ⟨rfl, rfl⟩
                rw [tt]
                go_wp2_with fail
                refine (may_any (u + 12622780800) _).mono ?_
                rintro e wz ⟨rfl, rfl⟩
                rw [ct]
                go_wp2_with fail
                refine (first_any _).mono ?_
                rintro e wz ⟨rfl, bb⟩
                replace s := s.step bb
                clear bb lt c0 c1 c2 c3
                obtain ⟨lt, c0, c1, c2, c3⟩ := s.cells
                go_wp2_with fail
                go_ret
                exact ⟨rfl, s.b⟩
            · have tt := decide_eq_false qt
              go_enter Try.func11, Try.ntmps11
              go_wp2_with fail
              have s : St w (w.alloc (zo bs A 0 c A' Y.length c' fr)) w.heap.size bs A c A' c' fr [] Y := St.new_ hz
              generalize w.alloc (zo bs A 0 c A' Y.length c' fr) = w1 at s ⊢
              obtain ⟨lt, c0, c1, c2, c3⟩ := s.cells
              refine (first_any _).mono ?_
              rintro e wz ⟨rfl, bb⟩
              replace s := s.step bb
              clear bb lt c0 c1 c2 c3
              obtain ⟨lt, c0, c1, c2, c3⟩ := s.cells
              go_wp2_with fail
              refine (few_any).mono ?_
              rintro e wz ⟨rfl, bb⟩
              replace s := s.step bb
              clear bb lt c0 c1 c2 c3
              obtain ⟨lt, c0, c1, c2, c3⟩ := s.cells
              rw [ft]
              go_wp2_with fail
              refine (mayZone_any bs A c A' c' fr [] Y w.heap.size _ s.z.s s.z.y s.le s.z.l s.z.l').mono ?_
              rintro e wz ⟨rfl, bb⟩
              replace s := s.step bb
              clear bb lt c0 c1 c2 c3
              obtain ⟨lt, c0, c1, c2, c3⟩ := s.cells
              rw [mt]
              go_wp2_with fail
              refine (may_any u _).mono ?_
              rintro e wz ⟨rfl, rfl⟩
              rw [tt]
              go_wp2_with fail
              refine (first_any _).mono ?_
              rintro e wz ⟨rfl, bb⟩
              replace s := s.step bb
              clear bb lt c0 c1 c2 c3
              obtain ⟨lt, c0, c1, c2, c3⟩ := s.cells
              go_wp2_with fail
              go_ret
              exact ⟨rfl, s.b⟩
    · have mt := mayZB_no qm
      go_enter Try.func11, Try.ntmps11
      go_wp2_with fail
      have s : St w (w.alloc (zo bs A L.length c A' Y.length c' fr)) w.heap.size bs A c A' c' fr L Y := St.new_ hz
      generalize w.alloc (zo bs A L.length c A' Y.length c' fr) = w1 at s ⊢
      obtain ⟨lt, c0, c1, c2, c3⟩ := s.cells
      refine (first_any _).mono ?_
      rintro e wz ⟨rfl, bb⟩
      replace s := s.step bb
      clear bb lt c0 c1 c2 c3
      obtain ⟨lt, c0, c1, c2, c3⟩ := s.cells
      go_wp2_with fail
      refine (few_any).mono ?_
      rintro e wz ⟨rfl, bb⟩
      replace s := s.step bb
      clear bb lt c0 c1 c2 c3
      obtain ⟨lt, c0, c1, c2, c3⟩ := s.cells
      rw [ft]
      go_wp2_with fail
      refine (mayZone_any bs A c A' c' fr L Y w.heap.size _ s.z.s s.z.y s.le s.z.l s.z.l').mono ?_
      rintro e wz ⟨rfl, bb⟩
      replace s := s.step bb
      clear bb lt c0 c1 c2 c3
      obtain ⟨lt, c0, c1, c2, c3⟩ := s.cells
      rw [mt]
      go_wp2_with fail
      refine (first_any _).mono ?_
      rintro e wz ⟨rfl, bb⟩
      replace s := s.step bb
      clear bb lt c0 c1 c2 c3
      obtain ⟨lt, c0, c1, c2, c3⟩ := s.cells
      go_wp2_with fail
      go_ret
      exact ⟨rfl, s.b⟩
  · have ft := decide_eq_false qf
    go_enter Try.func11, Try.ntmps11
    go_wp2_with fail
    have s : St w (w.alloc (zo bs A L.length c A' Y.length c' fr)) w.heap.size bs A c A' c' fr L Y := St.new_ hz
    generalize w.alloc (zo bs A L.length c A' Y.length c' fr) = w1 at s ⊢
    obtain ⟨lt, c0, c1, c2, c3⟩ := s.cells
    refine (first_any _).mono ?_
    rintro e wz ⟨rfl, bb⟩
    replace s := s.step bb
    clear bb lt c0 c1 c2 c3
    obtain ⟨lt, c0, c1, c2, c3⟩ := s.cells
    go_wp2_with fail
    refine (few_any).mono ?_
    rintro e wz ⟨rfl, bb⟩
    replace s := s.step bb
    clear bb lt c0 c1 c2 c3
    obtain ⟨lt, c0, c1, c2, c3⟩ := s.cells
    rw [ft]
    go_wp2_with fail
    refine (first_any _).mono ?_
    rintro e wz ⟨rfl, bb⟩
    replace s := s.step bb
    clear bb lt c0 c1 c2 c3
    obtain ⟨lt, c0, c1, c2, c3⟩ := s.cells
    go_wp2_with fail
    go_ret
    exact ⟨rfl, s.b⟩
end Go.Proofs.Ytbnchbcdgffkaaa
