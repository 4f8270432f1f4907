/- voklaw3.ZoneAsks. -/
import Derived.Test.YtbnchbcdgffkaaaRoff
import Derived.Test.YtbnchbcdgffkaaaRsame
namespace Go.Proofs.Ytbnchbcdgffkaaa
open Go.RowKit
set_option linter.unusedVariables false
set_option maxRecDepth 100000 in
set_option maxHeartbeats 8000000 in
theorem zoneAsks_true {bs : Int} {A A' : Option Addr} {c c' : Nat} {fr : Int} {L : List Sh} {Y : List Yr} {bs2 : Int} {A2 A2' : Option Addr} {k k' : Nat} {fr2 : Int} {L2 : List Sh} {Y2 : List Yr} {u : Int} {w : World} (hz : ZAt w w.heap.size A A' L Y) (hz2 : ZAt w w.heap.size A2 A2' L2 Y2) :
    Calls Try.prog 3 #[zv bs A L.length c A' Y.length c' fr, zv bs2 A2 L2.length k A2' Y2.length k' fr2, .int .i64 u] w fun e w' => e = .returned (.bool true) ∧ Below w.heap.size w w' := by
  by_cases qf : L.length ≤ 400 ∧ Y.length ≤ 400
  · have ft := decide_eq_true qf
    by_cases qg : L2.length ≤ 400 ∧ Y2.length ≤ 400
    · have gt := decide_eq_true qg
      go_enter Try.func3, Try.ntmps3
      go_wp2_with fail
      have bx := ((Below.refl w.heap.size w).alloc (Nat.le_refl _) (zo bs A L.length c A' Y.length c' fr)).alloc (by simp) (zo bs2 A2 L2.length k A2' Y2.length k' fr2)
      have s : St w ((w.alloc (zo bs A L.length c A' Y.length c' fr)).alloc (zo bs2 A2 L2.length k A2' Y2.length k' fr2)) w.heap.size bs A c A' c' fr L Y := (St.new_ hz).alloc _
      have s2 : St w ((w.alloc (zo bs A L.length c A' Y.length c' fr)).alloc (zo bs2 A2 L2.length k A2' Y2.length k' fr2)) (w.heap.size + 1) bs2 A2 k A2' k' fr2 L2 Y2 := ⟨bx, hz2.below bx, by
        have := Boxed.new_ (bs := bs2) (A := A2) (n := L2.length) (c := k) (A' := A2') (n' := Y2.length) (c' := k') (fr := fr2) (w.alloc (zo bs A L.length c A' Y.length c' fr))
        rwa [show (w.alloc (zo bs A L.length c A' Y.length c' fr)).heap.size = w.heap.size + 1 by simp] at this⟩
      generalize (w.alloc (zo bs A L.length c A' Y.length c' fr)).alloc (zo bs2 A2 L2.length k A2' Y2.length k' fr2) = w1 at s s2 ⊢
      clear bx
      obtain ⟨lt, c0, c1, c2, c3⟩ := s.cells
      obtain ⟨lt2, g0, g1, g2, g3⟩ := s2.cells
      refine (first_any _).mono ?_
      rintro e wz ⟨rfl, bb⟩
      replace s := s.step bb
      replace s2 := s2.step bb
      clear bb lt c0 c1 c2 c3 lt2 g0 g1 g2 g3
      obtain ⟨lt, c0, c1, c2, c3⟩ := s.cells
      obtain ⟨lt2, g0, g1, g2, g3⟩ := s2.cells
      go_wp2_with fail
      refine (few_any).mono ?_
      rintro e wz ⟨rfl, bb⟩
      replace s := s.step bb
      replace s2 := s2.step bb
      clear bb lt c0 c1 c2 c3 lt2 g0 g1 g2 g3
      obtain ⟨lt, c0, c1, c2, c3⟩ := s.cells
      obtain ⟨lt2, g0, g1, g2, g3⟩ := s2.cells
      rw [ft]
      go_wp2_with fail
      refine (few_any).mono ?_
      rintro e wz ⟨rfl, bb⟩
      replace s := s.step bb
      replace s2 := s2.step bb
      clear bb lt c0 c1 c2 c3 lt2 g0 g1 g2 g3
      obtain ⟨lt, c0, c1, c2, c3⟩ := s.cells
      obtain ⟨lt2, g0, g1, g2, g3⟩ := s2.cells
      rw [gt]
      go_wp2_with fail
      refine (before_any s.z s.le).mono ?_
      rintro e wz ⟨r, rfl, bb, hr, hn⟩
      replace s := s.step bb
      replace s2 := s2.step bb
      clear bb lt c0 c1 c2 c3 lt2 g0 g1 g2 g3
      obtain ⟨lt, c0, c1, c2, c3⟩ := s.cells
      obtain ⟨lt2, g0, g1, g2, g3⟩ := s2.cells
      replace hr := Lib.hid hr
      replace hn := Lib.hid hn
      rw [shv_eq]
      go_wp2_with fail
      replace s := s.alloc (.cells #[.int .i64 (ra r), .int .i64 (ro r)] 29)
      replace s2 := s2.alloc (.cells #[.int .i64 (ra r), .int .i64 (ro r)] 29)
      have T := Two.new_ wz (ra r) (ro r) wz.heap.size rfl
      obtain ⟨pT, hpT⟩ : ∃ p, p = wz.heap.size := ⟨_, rfl⟩
      rw [← hpT] at T ⊢
      clear hpT lt c0 c1 c2 c3 lt2 g0 g1 g2 g3
      generalize wz.alloc (.cells #[.int .i64 (ra r), .int .i64 (ro r)] 29) = wy at s s2 T ⊢
      obtain ⟨lt, c0, c1, c2, c3⟩ := s.cells
      obtain ⟨lt2, g0, g1, g2, g3⟩ := s2.cells
      obtain ⟨dT0, dT1⟩ := T.both
      refine (rbefore_any s.z s.le).mono ?_
      rintro e wz ⟨r2, rfl, bb, hr2, hn2⟩
      replace T := T.below bb T.lt
      replace s := s.step bb
      replace s2 := s2.step bb
      clear bb lt c0 c1 c2 c3 lt2 g0 g1 g2 g3 dT0 dT1
      obtain ⟨lt, c0, c1, c2, c3⟩ := s.cells
      obtain ⟨lt2, g0, g1, g2, g3⟩ := s2.cells
      obtain ⟨dT0, dT1⟩ := T.both
      have hqr : r2 = r := by
        by_cases hF : Fine bs L Y fr u
        · exact (hr2 hF).uniq hF.2.ok.sep (hr.out hF)
        · rw [hn2 hF, hn.out hF]
      subst hqr
      clear hr hn hr2 hn2
      rw [shv_eq]
      go_wp2_with fail
      have hlT := Lib.hid T.lt
      replace T := T.below ((Below.refl _ _).alloc (Nat.le_refl _) (.cells #[.int .i64 (ra r2), .int .i64 (ro r2)] 29)) T.lt
      replace s := s.alloc (.cells #[.int .i64 (ra r2), .int .i64 (ro r2)] 29)
      replace s2 := s2.alloc (.cells #[.int .i64 (ra r2), .int .i64 (ro r2)] 29)
      have U := Two.new_ wz (ra r2) (ro r2) wz.heap.size rfl
      obtain ⟨pU, hpU⟩ : ∃ p, p = wz.heap.size := ⟨_, rfl⟩
      rw [← hpU] at U ⊢
      clear hpU lt c0 c1 c2 c3 lt2 g0 g1 g2 g3 hlT dT0 dT1
      generalize wz.alloc (.cells #[.int .i64 (ra r2), .int .i64 (ro r2)] 29) = wy at s s2 U T ⊢
      obtain ⟨lt, c0, c1, c2, c3⟩ := s.cells
      obtain ⟨lt2, g0, g1, g2, g3⟩ := s2.cells
      obtain ⟨dT0, dT1⟩ := T.both
      obtain ⟨dU0, dU1⟩ := U.both
      refine (after_any s.z s.le).mono ?_
      rintro e wz ⟨q, rfl, bb, hr, hn⟩
      replace T := T.below bb T.lt
      replace U := U.below bb U.lt
      replace s := s.step bb
      replace s2 := s2.step bb
      clear bb lt c0 c1 c2 c3 lt2 g0 g1 g2 g3 dT0 dT1 dU0 dU1
      obtain ⟨lt, c0, c1, c2, c3⟩ := s.cells
      obtain ⟨lt2, g0, g1, g2, g3⟩ := s2.cells
      obtain ⟨dT0, dT1⟩ := T.both
      obtain ⟨dU0, dU1⟩ := U.both
      replace hr := Lib.hid hr
      replace hn := Lib.hid hn
      rw [shv_eq]
      go_wp2_with fail
      have hlT := Lib.hid T.lt
      have hlU := Lib.hid U.lt
      replace T := T.below ((Below.refl _ _).alloc (Nat.le_refl _) (.cells #[.int .i64 (ra q), .int .i64 (ro q)] 29)) T.lt
      replace U := U.below ((Below.refl _ _).alloc (Nat.le_refl _) (.cells #[.int .i64 (ra q), .int .i64 (ro q)] 29)) U.lt
      replace s := s.alloc (.cells #[.int .i64 (ra q), .int .i64 (ro q)] 29)
      replace s2 := s2.alloc (.cells #[.int .i64 (ra q), .int .i64 (ro q)] 29)
      have V := Two.new_ wz (ra q) (ro q) wz.heap.size rfl
      obtain ⟨pV, hpV⟩ : ∃ p, p = wz.heap.size := ⟨_, rfl⟩
      rw [← hpV] at V ⊢
      clear hpV lt c0 c1 c2 c3 lt2 g0 g1 g2 g3 hlT hlU dT0 dT1 dU0 dU1
      generalize wz.alloc (.cells #[.int .i64 (ra q), .int .i64 (ro q)] 29) = wy at s s2 V T U ⊢
      obtain ⟨lt, c0, c1, c2, c3⟩ := s.cells
      obtain ⟨lt2, g0, g1, g2, g3⟩ := s2.cells
      obtain ⟨dT0, dT1⟩ := T.both
      obtain ⟨dU0, dU1⟩ := U.both
      obtain ⟨dV0, dV1⟩ := V.both
      refine (rafter_any s.z s.le).mono ?_
      rintro e wz ⟨q2, rfl, bb, hr2, hn2⟩
      replace T := T.below bb T.lt
      replace U := U.below bb U.lt
      replace V := V.below bb V.lt
      replace s := s.step bb
      replace s2 := s2.step bb
      clear bb lt c0 c1 c2 c3 lt2 g0 g1 g2 g3 dT0 dT1 dU0 dU1 dV0 dV1
      obtain ⟨lt, c0, c1, c2, c3⟩ := s.cells
      obtain ⟨lt2, g0, g1, g2, g3⟩ := s2.cells
      obtain ⟨dT0, dT1⟩ := T.both
      obtain ⟨dU0, dU1⟩ := U.both
      obtain ⟨dV0, dV1⟩ := V.both
      have hqr : q2 = q := by
        by_cases hF : Fine bs L Y fr u
        · exact (hr2 hF).uniq hF.2.ok.sep (hr.out hF)
        · rw [hn2 hF, hn.out hF]
      subst hqr
      clear hr hn hr2 hn2
      rw [shv_eq]
      go_wp2_with fail
      have hlT := Lib.hid T.lt
      have hlU := Lib.hid U.lt
      have hlV := Lib.hid V.lt
      replace T := T.below ((Below.refl _ _).alloc (Nat.le_refl _) (.cells #[.int .i64 (ra q2), .int .i64 (ro q2)] 29)) T.lt
      replace U := U.below ((Below.refl _ _).alloc (Nat.le_refl _) (.cells #[.int .i64 (ra q2), .int .i64 (ro q2)] 29)) U.lt
      replace V := V.below ((Below.refl _ _).alloc (Nat.le_refl _) (.cells #[.int .i64 (ra q2), .int .i64 (ro q2)] 29)) V.lt
      replace s := s.alloc (.cells #[.int .i64 (ra q2), .int .i64 (ro q2)] 29)
      replace s2 := s2.alloc (.cells #[.int .i64 (ra q2), .int .i64 (ro q2)] 29)
      have X := Two.new_ wz (ra q2) (ro q2) wz.heap.size rfl
      obtain ⟨pX, hpX⟩ : ∃ p, p = wz.heap.size := ⟨_, rfl⟩
      rw [← hpX] at X ⊢
      clear hpX lt c0 c1 c2 c3 lt2 g0 g1 g2 g3 hlT hlU hlV dT0 dT1 dU0 dU1 dV0 dV1
      generalize wz.alloc (.cells #[.int .i64 (ra q2), .int .i64 (ro q2)] 29) = wy at s s2 X T U V ⊢
      obtain ⟨lt, c0, c1, c2, c3⟩ := s.cells
      obtain ⟨lt2, g0, g1, g2, g3⟩ := s2.cells
      obtain ⟨dT0, dT1⟩ := T.both
      obtain ⟨dU0, dU1⟩ := U.both
      obtain ⟨dV0, dV1⟩ := V.both
      obtain ⟨dX0, dX1⟩ := X.both
      replace s := s.drew
      replace s2 := s2.drew
      replace T := T.drew
      replace U := U.drew
      replace V := V.drew
      replace X := X.drew
      clear lt c0 c1 c2 c3 lt2 g0 g1 g2 g3 dT0 dT1 dU0 dU1 dV0 dV1 dX0 dX1
      refine wp_region_held_drew (S := fun w9 => St w w9 w.heap.size bs A c A' c' fr L Y ∧ St w w9 (w.heap.size + 1) bs2 A2 k A2' k' fr2 L2 Y2 ∧ Two w9 pT (ra r2) (ro r2) ∧ Two w9 pU (ra r2) (ro r2) ∧ Two w9 pV (ra q2) (ro q2) ∧ Two w9 pX (ra q2) (ro q2)) (by kernel_rfl) ⟨s, s2, T, U, V, X⟩ (fun _ => ?_)
      refine wpAnyH_ready (rs := [0]) (by kernel_rfl) (by simp) ?_
      refine AllReadyH.cons (o := { dst := some 50, op := Op.call { callee := Callee.value (Operand.func 12), args := #[], argTypes := #[] }, type := 4, pos := "law.go:38", after := #[], guard := none }) rfl (fun K hK => ?_) AllReadyH.nil
      go_simp
      refine (first_any _).mono ?_
      rintro e wz ⟨rfl, bb⟩
      replace T := T.below bb T.lt
      replace U := U.below bb U.lt
      replace V := V.below bb V.lt
      replace X := X.below bb X.lt
      replace s := s.step bb
      replace s2 := s2.step bb
      clear bb
      go_wp2_with fail
      refine hK.out _ _ ⟨s, s2, T, U, V, X⟩ (fun _ => ?_)
      clear hK K
      try simp only [Act.put, List.setIfInBounds_toArray, List.set_cons_zero, List.set_cons_succ]
      refine wpAnyH_take (i := 1) (oi := { dst := some 51, op := Op.move (Operand.tmp 50), type := 4, pos := "law.go:38", after := #[{ on := 0, ground := Ground.data }, { on := 0, ground := Ground.chain }], guard := none }) (v := ?_) rfl (by kernel_rfl) (by kernel_rfl) (by kernel_rfl) (fun _ _ _ h => h) (Or.inl ⟨by rfl, ?_⟩) (by trivial) ?_
      rotate_left
      (focus (intro w9 hSw; obtain ⟨s9, t9, T9, U9, V9, X9⟩ := hSw; obtain ⟨lt, c0, c1, c2, c3⟩ := s9.cells; obtain ⟨lt2, g0, g1, g2, g3⟩ := t9.cells; obtain ⟨dT0, dT1⟩ := T9.both; obtain ⟨dU0, dU1⟩ := U9.both; obtain ⟨dV0, dV1⟩ := V9.both; obtain ⟨dX0, dX1⟩ := X9.both; go_simp <;> with_reducible rfl))
      try simp only [Act.put, List.setIfInBounds_toArray, List.set_cons_zero, List.set_cons_succ]
      refine wpAnyH_take (i := 2) (oi := { dst := some 52, op := Op.load 25 (Operand.tmp 3), type := 25, pos := "law.go:38", after := #[{ on := 1, ground := Ground.guard }], guard := some (1, true) }) (v := ?_) rfl (by kernel_rfl) (by kernel_rfl) (by kernel_rfl) (fun _ _ _ h => h) (Or.inl ⟨by rfl, ?_⟩) (by trivial) ?_
      rotate_left
      (focus (intro w9 hSw; obtain ⟨s9, t9, T9, U9, V9, X9⟩ := hSw; obtain ⟨lt, c0, c1, c2, c3⟩ := s9.cells; obtain ⟨lt2, g0, g1, g2, g3⟩ := t9.cells; obtain ⟨dT0, dT1⟩ := T9.both; obtain ⟨dU0, dU1⟩ := U9.both; obtain ⟨dV0, dV1⟩ := V9.both; obtain ⟨dX0, dX1⟩ := X9.both; go_simp <;> with_reducible rfl))
      try simp only [Act.put, List.setIfInBounds_toArray, List.set_cons_zero, List.set_cons_succ]
      refine wpAnyH_take (i := 4) (oi := { dst := some 54, op := Op.load 25 (Operand.tmp 3), type := 25, pos := "law.go:38", after := #[{ on := 1, ground := Ground.guard }], guard := some (1, true) }) (v := ?_) rfl (by kernel_rfl) (by kernel_rfl) (by kernel_rfl) (fun _ _ _ h => h) (Or.inl ⟨by rfl, ?_⟩) (by trivial) ?_
      rotate_left
      (focus (intro w9 hSw; obtain ⟨s9, t9, T9, U9, V9, X9⟩ := hSw; obtain ⟨lt, c0, c1, c2, c3⟩ := s9.cells; obtain ⟨lt2, g0, g1, g2, g3⟩ := t9.cells; obtain ⟨dT0, dT1⟩ := T9.both; obtain ⟨dU0, dU1⟩ := U9.both; obtain ⟨dV0, dV1⟩ := V9.both; obtain ⟨dX0, dX1⟩ := X9.both; go_simp <;> with_reducible rfl))
      try simp only [Act.put, List.setIfInBounds_toArray, List.set_cons_zero, List.set_cons_succ]
      refine wpAnyH_ready (rs := [3]) (by kernel_rfl) (by simp) ?_
      refine AllReadyH.cons (o := { dst := some 53, op := Op.call { callee := Callee.value (Operand.func 18), args := #[Operand.tmp 52], argTypes := #[25] }, type := 4, pos := "law.go:38", after := #[{ on := 2, ground := Ground.data }, { on := 1, ground := Ground.chain }, { on := 1, ground := Ground.guard }], guard := some (1, true) }) rfl (fun K hK => ?_) AllReadyH.nil
      go_simp
      refine (mayZone_any bs A c A' c' fr L Y w.heap.size _ s.z.s s.z.y s.le s.z.l s.z.l').mono ?_
      rintro e wz ⟨rfl, bb⟩
      replace T := T.below bb T.lt
      replace U := U.below bb U.lt
      replace V := V.below bb V.lt
      replace X := X.below bb X.lt
      replace s := s.step bb
      replace s2 := s2.step bb
      clear bb
      go_wp2_with fail
      refine hK.out _ _ ⟨s, s2, T, U, V, X⟩ (fun _ => ?_)
      clear hK K
      try simp only [Act.put, List.setIfInBounds_toArray, List.set_cons_zero, List.set_cons_succ]
      refine wpAnyH_ready (rs := [5]) (by kernel_rfl) (by simp) ?_
      refine AllReadyH.cons (o := { dst := some 55, op := Op.call { callee := Callee.value (Operand.func 19), args := #[Operand.tmp 54], argTypes := #[25] }, type := 4, pos := "law.go:38", after := #[{ on := 4, ground := Ground.data }, { on := 3, ground := Ground.chain }, { on := 1, ground := Ground.guard }], guard := some (1, true) }) rfl (fun K hK => ?_) AllReadyH.nil
      go_simp
      refine (rmayZone_any bs A c A' c' fr L Y _ _ s.z s.le).mono ?_
      rintro e wz ⟨rfl, bb⟩
      replace T := T.below bb T.lt
      replace U := U.below bb U.lt
      replace V := V.below bb V.lt
      replace X := X.below bb X.lt
      replace s := s.step bb
      replace s2 := s2.step bb
      clear bb
      go_wp2_with fail
      refine hK.out _ _ ⟨s, s2, T, U, V, X⟩ (fun _ => ?_)
      clear hK K
      try simp only [Act.put, List.setIfInBounds_toArray, List.set_cons_zero, List.set_cons_succ]
      refine wpAnyH_take (i := 6) (oi := { dst := some 56, op := Op.binOp BinOp.eql 4 (Operand.tmp 53) (Operand.tmp 55) 4, type := 4, pos := "law.go:38", after := #[{ on := 3, ground := Ground.data }, { on := 5, ground := Ground.data }, { on := 1, ground := Ground.guard }], guard := some (1, true) }) (v := ?_) rfl (by kernel_rfl) (by kernel_rfl) (by kernel_rfl) (fun _ _ _ h => h) (Or.inl ⟨by rfl, ?_⟩) (by trivial) ?_
      rotate_left
      (focus (intro w9 hSw; obtain ⟨s9, t9, T9, U9, V9, X9⟩ := hSw; obtain ⟨lt, c0, c1, c2, c3⟩ := s9.cells; obtain ⟨lt2, g0, g1, g2, g3⟩ := t9.cells; obtain ⟨dT0, dT1⟩ := T9.both; obtain ⟨dU0, dU1⟩ := U9.both; obtain ⟨dV0, dV1⟩ := V9.both; obtain ⟨dX0, dX1⟩ := X9.both; go_simp <;> with_reducible rfl))
      try simp only [Act.put, List.setIfInBounds_toArray, List.set_cons_zero, List.set_cons_succ]
      refine wpAnyH_take (i := 7) (oi := { dst := some 57, op := Op.pick (Operand.tmp 51) (Operand.tmp 56) (Operand.const (Value.bool false)), type := 4, pos := "law.go:38", after := #[{ on := 1, ground := Ground.data }, { on := 6, ground := Ground.data }], guard := none }) (v := ?_) rfl (by kernel_rfl) (by kernel_rfl) (by kernel_rfl) (fun _ _ _ h => h) (Or.inl ⟨by rfl, ?_⟩) (by trivial) ?_
      rotate_left
      (focus (intro w9 hSw; obtain ⟨s9, t9, T9, U9, V9, X9⟩ := hSw; obtain ⟨lt, c0, c1, c2, c3⟩ := s9.cells; obtain ⟨lt2, g0, g1, g2, g3⟩ := t9.cells; obtain ⟨dT0, dT1⟩ := T9.both; obtain ⟨dU0, dU1⟩ := U9.both; obtain ⟨dV0, dV1⟩ := V9.both; obtain ⟨dX0, dX1⟩ := X9.both; go_simp <;> with_reducible rfl))
      try simp only [Act.put, List.setIfInBounds_toArray, List.set_cons_zero, List.set_cons_succ]
      refine wpAnyH_take (i := 8) (oi := { dst := some 58, op := Op.move (Operand.tmp 57), type := 4, pos := "law.go:38", after := #[{ on := 7, ground := Ground.data }, { on := 5, ground := Ground.chain }], guard := none }) (v := ?_) rfl (by kernel_rfl) (by kernel_rfl) (by kernel_rfl) (fun _ _ _ h => h) (Or.inl ⟨by rfl, ?_⟩) (by trivial) ?_
      rotate_left
      (focus (intro w9 hSw; obtain ⟨s9, t9, T9, U9, V9, X9⟩ := hSw; obtain ⟨lt, c0, c1, c2, c3⟩ := s9.cells; obtain ⟨lt2, g0, g1, g2, g3⟩ := t9.cells; obtain ⟨dT0, dT1⟩ := T9.both; obtain ⟨dU0, dU1⟩ := U9.both; obtain ⟨dV0, dV1⟩ := V9.both; obtain ⟨dX0, dX1⟩ := X9.both; go_simp <;> with_reducible rfl))
      try simp only [Act.put, List.setIfInBounds_toArray, List.set_cons_zero, List.set_cons_succ]
      refine wpAnyH_take (i := 9) (oi := { dst := some 59, op := Op.load 25 (Operand.tmp 3), type := 25, pos := "law.go:38", after := #[{ on := 8, ground := Ground.guard }], guard := some (8, true) }) (v := ?_) rfl (by kernel_rfl) (by kernel_rfl) (by kernel_rfl) (fun _ _ _ h => h) (Or.inl ⟨by rfl, ?_⟩) (by trivial) ?_
      rotate_left
      (focus (intro w9 hSw; obtain ⟨s9, t9, T9, U9, V9, X9⟩ := hSw; obtain ⟨lt, c0, c1, c2, c3⟩ := s9.cells; obtain ⟨lt2, g0, g1, g2, g3⟩ := t9.cells; obtain ⟨dT0, dT1⟩ := T9.both; obtain ⟨dU0, dU1⟩ := U9.both; obtain ⟨dV0, dV1⟩ := V9.both; obtain ⟨dX0, dX1⟩ := X9.both; go_simp <;> with_reducible rfl))
      try simp only [Act.put, List.setIfInBounds_toArray, List.set_cons_zero, List.set_cons_succ]
      refine wpAnyH_take (i := 10) (oi := { dst := some 60, op := Op.move (Operand.tmp 2), type := 3, pos := "law.go:38", after := #[{ on := 8, ground := Ground.guard }], guard := some (8, true) }) (v := ?_) rfl (by kernel_rfl) (by kernel_rfl) (by kernel_rfl) (fun _ _ _ h => h) (Or.inl ⟨by rfl, ?_⟩) (by trivial) ?_
      rotate_left
      (focus (intro w9 hSw; obtain ⟨s9, t9, T9, U9, V9, X9⟩ := hSw; obtain ⟨lt, c0, c1, c2, c3⟩ := s9.cells; obtain ⟨lt2, g0, g1, g2, g3⟩ := t9.cells; obtain ⟨dT0, dT1⟩ := T9.both; obtain ⟨dU0, dU1⟩ := U9.both; obtain ⟨dV0, dV1⟩ := V9.both; obtain ⟨dX0, dX1⟩ := X9.both; go_simp <;> with_reducible rfl))
      try simp only [Act.put, List.setIfInBounds_toArray, List.set_cons_zero, List.set_cons_succ]
      refine wpAnyH_take (i := 12) (oi := { dst := some 62, op := Op.load 25 (Operand.tmp 3), type := 25, pos := "law.go:38", after := #[{ on := 8, ground := Ground.guard }], guard := some (8, true) }) (v := ?_) rfl (by kernel_rfl) (by kernel_rfl) (by kernel_rfl) (fun _ _ _ h => h) (Or.inl ⟨by rfl, ?_⟩) (by trivial) ?_
      rotate_left
      (focus (intro w9 hSw; obtain ⟨s9, t9, T9, U9, V9, X9⟩ := hSw; obtain ⟨lt, c0, c1, c2, c3⟩ := s9.cells; obtain ⟨lt2, g0, g1, g2, g3⟩ := t9.cells; obtain ⟨dT0, dT1⟩ := T9.both; obtain ⟨dU0, dU1⟩ := U9.both; obtain ⟨dV0, dV1⟩ := V9.both; obtain ⟨dX0, dX1⟩ := X9.both; go_simp <;> with_reducible rfl))
      try simp only [Act.put, List.setIfInBounds_toArray, List.set_cons_zero, List.set_cons_succ]
      refine wpAnyH_take (i := 13) (oi := { dst := some 63, op := Op.move (Operand.tmp 2), type := 3, pos := "law.go:38", after := #[{ on := 8, ground := Ground.guard }], guard := some (8, true) }) (v := ?_) rfl (by kernel_rfl) (by kernel_rfl) (by kernel_rfl) (fun _ _ _ h => h) (Or.inl ⟨by rfl, ?_⟩) (by trivial) ?_
      rotate_left
      (focus (intro w9 hSw; obtain ⟨s9, t9, T9, U9, V9, X9⟩ := hSw; obtain ⟨lt, c0, c1, c2, c3⟩ := s9.cells; obtain ⟨lt2, g0, g1, g2, g3⟩ := t9.cells; obtain ⟨dT0, dT1⟩ := T9.both; obtain ⟨dU0, dU1⟩ := U9.both; obtain ⟨dV0, dV1⟩ := V9.both; obtain ⟨dX0, dX1⟩ := X9.both; go_simp <;> with_reducible rfl))
      try simp only [Act.put, List.setIfInBounds_toArray, List.set_cons_zero, List.set_cons_succ]
      refine wpAnyH_ready (rs := [11]) (by kernel_rfl) (by simp) ?_
      refine AllReadyH.cons (o := { dst := some 61, op := Op.call { callee := Callee.value (Operand.func 20), args := #[Operand.tmp 59, Operand.tmp 60], argTypes := #[25, 3] }, type := 3, pos := "law.go:38", after := #[{ on := 9, ground := Ground.data }, { on := 10, ground := Ground.data }, { on := 8, ground := Ground.chain }, { on := 8, ground := Ground.guard }], guard := some (8, true) }) rfl (fun K hK => ?_) AllReadyH.nil
      go_simp
      refine (zoffset_any s.z s.le).mono ?_
      rintro e wz ⟨o, rfl, bb, ho, hn⟩
      replace T := T.below bb T.lt
      replace U := U.below bb U.lt
      replace V := V.below bb V.lt
      replace X := X.below bb X.lt
      replace s := s.step bb
      replace s2 := s2.step bb
      clear bb
      replace ho := Lib.hid ho
      replace hn := Lib.hid hn
      go_wp2_with fail
      refine hK.out _ _ ⟨s, s2, T, U, V, X⟩ (fun _ => ?_)
      clear hK K
      try simp only [Act.put, List.setIfInBounds_toArray, List.set_cons_zero, List.set_cons_succ]
      refine wpAnyH_ready (rs := [14]) (by kernel_rfl) (by simp) ?_
      refine AllReadyH.cons (o := { dst := some 64, op := Op.call { callee := Callee.value (Operand.func 21), args := #[Operand.tmp 62, Operand.tmp 63], argTypes := #[25, 3] }, type := 3, pos := "law.go:38", after := #[{ on := 12, ground := Ground.data }, { on := 13, ground := Ground.data }, { on := 11, ground := Ground.chain }, { on := 8, ground := Ground.guard }], guard := some (8, true) }) rfl (fun K hK => ?_) AllReadyH.nil
      go_simp
      refine (roffset_any s.z s.le).mono ?_
      rintro e wz ⟨o2, rfl, bb, ho2, hn2⟩
      replace T := T.below bb T.lt
      replace U := U.below bb U.lt
      replace V := V.below bb V.lt
      replace X := X.below bb X.lt
      replace s := s.step bb
      replace s2 := s2.step bb
      clear bb
      have hqr : o2 = o := by
        by_cases hF : Fine bs L Y fr u
        · exact (ho2 hF).uniq hF.2.ok.sep (ho.out hF)
        · rw [hn2 hF, hn.out hF]
      subst hqr
      clear ho hn ho2 hn2
      go_wp2_with fail
      refine hK.out _ _ ⟨s, s2, T, U, V, X⟩ (fun _ => ?_)
      clear hK K
      try simp only [Act.put, List.setIfInBounds_toArray, List.set_cons_zero, List.set_cons_succ]
      refine wpAnyH_take (i := 15) (oi := { dst := some 65, op := Op.binOp BinOp.eql 3 (Operand.tmp 61) (Operand.tmp 64) 3, type := 4, pos := "law.go:38", after := #[{ on := 11, ground := Ground.data }, { on := 14, ground := Ground.data }, { on := 8, ground := Ground.guard }], guard := some (8, true) }) (v := ?_) rfl (by kernel_rfl) (by kernel_rfl) (by kernel_rfl) (fun _ _ _ h => h) (Or.inl ⟨by rfl, ?_⟩) (by trivial) ?_
      rotate_left
      (focus (intro w9 hSw; obtain ⟨s9, t9, T9, U9, V9, X9⟩ := hSw; obtain ⟨lt, c0, c1, c2, c3⟩ := s9.cells; obtain ⟨lt2, g0, g1, g2, g3⟩ := t9.cells; obtain ⟨dT0, dT1⟩ := T9.both; obtain ⟨dU0, dU1⟩ := U9.both; obtain ⟨dV0, dV1⟩ := V9.both; obtain ⟨dX0, dX1⟩ := X9.both; go_simp <;> with_reducible rfl))
      try simp only [Act.put, List.setIfInBounds_toArray, List.set_cons_zero, List.set_cons_succ]
      refine wpAnyH_take (i := 16) (oi := { dst := some 66, op := Op.pick (Operand.tmp 58) (Operand.tmp 65) (Operand.const (Value.bool false)), type := 4, pos := "law.go:38", after := #[{ on := 8, ground := Ground.data }, { on := 15, ground := Ground.data }], guard := none }) (v := ?_) rfl (by kernel_rfl) (by kernel_rfl) (by kernel_rfl) (fun _ _ _ h => h) (Or.inl ⟨by rfl, ?_⟩) (by trivial) ?_
      rotate_left
      (focus (intro w9 hSw; obtain ⟨s9, t9, T9, U9, V9, X9⟩ := hSw; obtain ⟨lt, c0, c1, c2, c3⟩ := s9.cells; obtain ⟨lt2, g0, g1, g2, g3⟩ := t9.cells; obtain ⟨dT0, dT1⟩ := T9.both; obtain ⟨dU0, dU1⟩ := U9.both; obtain ⟨dV0, dV1⟩ := V9.both; obtain ⟨dX0, dX1⟩ := X9.both; go_simp <;> with_reducible rfl))
      try simp only [Act.put, List.setIfInBounds_toArray, List.set_cons_zero, List.set_cons_succ]
      refine wpAnyH_take (i := 17) (oi := { dst := some 67, op := Op.move (Operand.tmp 66), type := 4, pos := "law.go:38", after := #[{ on := 16, ground := Ground.data }, { on := 14, ground := Ground.chain }], guard := none }) (v := ?_) rfl (by kernel_rfl) (by kernel_rfl) (by kernel_rfl) (fun _ _ _ h => h) (Or.inl ⟨by rfl, ?_⟩) (by trivial) ?_
      rotate_left
      (focus (intro w9 hSw; obtain ⟨s9, t9, T9, U9, V9, X9⟩ := hSw; obtain ⟨lt, c0, c1, c2, c3⟩ := s9.cells; obtain ⟨lt2, g0, g1, g2, g3⟩ := t9.cells; obtain ⟨dT0, dT1⟩ := T9.both; obtain ⟨dU0, dU1⟩ := U9.both; obtain ⟨dV0, dV1⟩ := V9.both; obtain ⟨dX0, dX1⟩ := X9.both; go_simp <;> with_reducible rfl))
      try simp only [Act.put, List.setIfInBounds_toArray, List.set_cons_zero, List.set_cons_succ]
      refine wpAnyH_take (i := 18) (oi := { dst := some 68, op := Op.load 25 (Operand.tmp 3), type := 25, pos := "law.go:38", after := #[{ on := 17, ground := Ground.guard }], guard := some (17, true) }) (v := ?_) rfl (by kernel_rfl) (by kernel_rfl) (by kernel_rfl) (fun _ _ _ h => h) (Or.inl ⟨by rfl, ?_⟩) (by trivial) ?_
      rotate_left
      (focus (intro w9 hSw; obtain ⟨s9, t9, T9, U9, V9, X9⟩ := hSw; obtain ⟨lt, c0, c1, c2, c3⟩ := s9.cells; obtain ⟨lt2, g0, g1, g2, g3⟩ := t9.cells; obtain ⟨dT0, dT1⟩ := T9.both; obtain ⟨dU0, dU1⟩ := U9.both; obtain ⟨dV0, dV1⟩ := V9.both; obtain ⟨dX0, dX1⟩ := X9.both; go_simp <;> with_reducible rfl))
      try simp only [Act.put, List.setIfInBounds_toArray, List.set_cons_zero, List.set_cons_succ]
      refine wpAnyH_take (i := 19) (oi := { dst := some 69, op := Op.move (Operand.tmp 2), type := 3, pos := "law.go:38", after := #[{ on := 17, ground := Ground.guard }], guard := some (17, true) }) (v := ?_) rfl (by kernel_rfl) (by kernel_rfl) (by kernel_rfl) (fun _ _ _ h => h) (Or.inl ⟨by rfl, ?_⟩) (by trivial) ?_
      rotate_left
      (focus (intro w9 hSw; obtain ⟨s9, t9, T9, U9, V9, X9⟩ := hSw; obtain ⟨lt, c0, c1, c2, c3⟩ := s9.cells; obtain ⟨lt2, g0, g1, g2, g3⟩ := t9.cells; obtain ⟨dT0, dT1⟩ := T9.both; obtain ⟨dU0, dU1⟩ := U9.both; obtain ⟨dV0, dV1⟩ := V9.both; obtain ⟨dX0, dX1⟩ := X9.both; go_simp <;> with_reducible rfl))
      try simp only [Act.put, List.setIfInBounds_toArray, List.set_cons_zero, List.set_cons_succ]
      refine wpAnyH_take (i := 21) (oi := { dst := some 71, op := Op.load 25 (Operand.tmp 3), type := 25, pos := "law.go:38", after := #[{ on := 17, ground := Ground.guard }], guard := some (17, true) }) (v := ?_) rfl (by kernel_rfl) (by kernel_rfl) (by kernel_rfl) (fun _ _ _ h => h) (Or.inl ⟨by rfl, ?_⟩) (by trivial) ?_
      rotate_left
      (focus (intro w9 hSw; obtain ⟨s9, t9, T9, U9, V9, X9⟩ := hSw; obtain ⟨lt, c0, c1, c2, c3⟩ := s9.cells; obtain ⟨lt2, g0, g1, g2, g3⟩ := t9.cells; obtain ⟨dT0, dT1⟩ := T9.both; obtain ⟨dU0, dU1⟩ := U9.both; obtain ⟨dV0, dV1⟩ := V9.both; obtain ⟨dX0, dX1⟩ := X9.both; go_simp <;> with_reducible rfl))
      try simp only [Act.put, List.setIfInBounds_toArray, List.set_cons_zero, List.set_cons_succ]
      refine wpAnyH_take (i := 22) (oi := { dst := some 72, op := Op.move (Operand.tmp 2), type := 3, pos := "law.go:38", after := #[{ on := 17, ground := Ground.guard }], guard := some (17, true) }) (v := ?_) rfl (by kernel_rfl) (by kernel_rfl) (by kernel_rfl) (fun _ _ _ h => h) (Or.inl ⟨by rfl, ?_⟩) (by trivial) ?_
      rotate_left
      (focus (intro w9 hSw; obtain ⟨s9, t9, T9, U9, V9, X9⟩ := hSw; obtain ⟨lt, c0, c1, c2, c3⟩ := s9.cells; obtain ⟨lt2, g0, g1, g2, g3⟩ := t9.cells; obtain ⟨dT0, dT1⟩ := T9.both; obtain ⟨dU0, dU1⟩ := U9.both; obtain ⟨dV0, dV1⟩ := V9.both; obtain ⟨dX0, dX1⟩ := X9.both; go_simp <;> with_reducible rfl))
      try simp only [Act.put, List.setIfInBounds_toArray, List.set_cons_zero, List.set_cons_succ]
      refine wpAnyH_ready (rs := [20]) (by kernel_rfl) (by simp) ?_
      refine AllReadyH.cons (o := { dst := some 70, op := Op.call { callee := Callee.value (Operand.func 22), args := #[Operand.tmp 68, Operand.tmp 69], argTypes := #[25, 3] }, type := 3, pos := "law.go:38", after := #[{ on := 18, ground := Ground.data }, { on := 19, ground := Ground.data }, { on := 17, ground := Ground.chain }, { on := 17, ground := Ground.guard }], guard := some (17, true) }) rfl (fun K hK => ?_) AllReadyH.nil
      go_simp
      refine (local_any s.z s.le).mono ?_
      rintro e wz ⟨l, rfl, bb, ho, hn⟩
      replace T := T.below bb T.lt
      replace U := U.below bb U.lt
      replace V := V.below bb V.lt
      replace X := X.below bb X.lt
      replace s := s.step bb
      replace s2 := s2.step bb
      clear bb
      replace ho := Lib.hid ho
      replace hn := Lib.hid hn
      go_wp2_with fail
      refine hK.out _ _ ⟨s, s2, T, U, V, X⟩ (fun _ => ?_)
      clear hK K
      try simp only [Act.put, List.setIfInBounds_toArray, List.set_cons_zero, List.set_cons_succ]
      refine wpAnyH_ready (rs := [23]) (by kernel_rfl) (by simp) ?_
      refine AllReadyH.cons (o := { dst := some 73, op := Op.call { callee := Callee.value (Operand.func 23), args := #[Operand.tmp 71, Operand.tmp 72], argTypes := #[25, 3] }, type := 3, pos := "law.go:38", after := #[{ on := 21, ground := Ground.data }, { on := 22, ground := Ground.data }, { on := 20, ground := Ground.chain }, { on := 17, ground := Ground.guard }], guard := some (17, true) }) rfl (fun K hK => ?_) AllReadyH.nil
      go_simp
      refine (rlocal_any s.z s.le).mono ?_
      rintro e wz ⟨l2, rfl, bb, ho2, hn2⟩
      replace T := T.below bb T.lt
      replace U := U.below bb U.lt
      replace V := V.below bb V.lt
      replace X := X.below bb X.lt
      replace s := s.step bb
      replace s2 := s2.step bb
      clear bb
      have hqr : l2 = l := by
        by_cases hF : Fine bs L Y fr u
        · exact IsOff.same hF.2.ok.sep (ho2 hF) (ho.out hF)
        · rw [hn2 hF, hn.out hF]
      subst hqr
      clear ho hn ho2 hn2
      go_wp2_with fail
      refine hK.out _ _ ⟨s, s2, T, U, V, X⟩ (fun _ => ?_)
      clear hK K
      try simp only [Act.put, List.setIfInBounds_toArray, List.set_cons_zero, List.set_cons_succ]
      refine wpAnyH_take (i := 24) (oi := { dst := some 74, op := Op.binOp BinOp.eql 3 (Operand.tmp 70) (Operand.tmp 73) 3, type := 4, pos := "law.go:38", after := #[{ on := 20, ground := Ground.data }, { on := 23, ground := Ground.data }, { on := 17, ground := Ground.guard }], guard := some (17, true) }) (v := ?_) rfl (by kernel_rfl) (by kernel_rfl) (by kernel_rfl) (fun _ _ _ h => h) (Or.inl ⟨by rfl, ?_⟩) (by trivial) ?_
      rotate_left
      (focus (intro w9 hSw; obtain ⟨s9, t9, T9, U9, V9, X9⟩ := hSw; obtain ⟨lt, c0, c1, c2, c3⟩ := s9.cells; obtain ⟨lt2, g0, g1, g2, g3⟩ := t9.cells; obtain ⟨dT0, dT1⟩ := T9.both; obtain ⟨dU0, dU1⟩ := U9.both; obtain ⟨dV0, dV1⟩ := V9.both; obtain ⟨dX0, dX1⟩ := X9.both; go_simp <;> with_reducible rfl))
      try simp only [Act.put, List.setIfInBounds_toArray, List.set_cons_zero, List.set_cons_succ]
      refine wpAnyH_take (i := 25) (oi := { dst := some 75, op := Op.pick (Operand.tmp 67) (Operand.tmp 74) (Operand.const (Value.bool false)), type := 4, pos := "law.go:38", after := #[{ on := 17, ground := Ground.data }, { on := 24, ground := Ground.data }], guard := none }) (v := ?_) rfl (by kernel_rfl) (by kernel_rfl) (by kernel_rfl) (fun _ _ _ h => h) (Or.inl ⟨by rfl, ?_⟩) (by trivial) ?_
      rotate_left
      (focus (intro w9 hSw; obtain ⟨s9, t9, T9, U9, V9, X9⟩ := hSw; obtain ⟨lt, c0, c1, c2, c3⟩ := s9.cells; obtain ⟨lt2, g0, g1, g2, g3⟩ := t9.cells; obtain ⟨dT0, dT1⟩ := T9.both; obtain ⟨dU0, dU1⟩ := U9.both; obtain ⟨dV0, dV1⟩ := V9.both; obtain ⟨dX0, dX1⟩ := X9.both; go_simp <;> with_reducible rfl))
      try simp only [Act.put, List.setIfInBounds_toArray, List.set_cons_zero, List.set_cons_succ]
      refine wpAnyH_take (i := 26) (oi := { dst := some 76, op := Op.move (Operand.tmp 75), type := 4, pos := "law.go:38", after := #[{ on := 25, ground := Ground.data }, { on := 23, ground := Ground.chain }], guard := none }) (v := ?_) rfl (by kernel_rfl) (by kernel_rfl) (by kernel_rfl) (fun _ _ _ h => h) (Or.inl ⟨by rfl, ?_⟩) (by trivial) ?_
      rotate_left
      (focus (intro w9 hSw; obtain ⟨s9, t9, T9, U9, V9, X9⟩ := hSw; obtain ⟨lt, c0, c1, c2, c3⟩ := s9.cells; obtain ⟨lt2, g0, g1, g2, g3⟩ := t9.cells; obtain ⟨dT0, dT1⟩ := T9.both; obtain ⟨dU0, dU1⟩ := U9.both; obtain ⟨dV0, dV1⟩ := V9.both; obtain ⟨dX0, dX1⟩ := X9.both; go_simp <;> with_reducible rfl))
      try simp only [Act.put, List.setIfInBounds_toArray, List.set_cons_zero, List.set_cons_succ]
      refine wpAnyH_take (i := 27) (oi := { dst := some 77, op := Op.fieldAddr 29 (Operand.tmp 7) 0, type := 0, pos := "law.go:38", after := #[{ on := 26, ground := Ground.guard }], guard := some (26, true) }) (v := ?_) rfl (by kernel_rfl) (by kernel_rfl) (by kernel_rfl) (fun _ _ _ h => h) (Or.inl ⟨by rfl, ?_⟩) (by trivial) ?_
      rotate_left
      (focus (intro w9 hSw; obtain ⟨s9, t9, T9, U9, V9, X9⟩ := hSw; obtain ⟨lt, c0, c1, c2, c3⟩ := s9.cells; obtain ⟨lt2, g0, g1, g2, g3⟩ := t9.cells; obtain ⟨dT0, dT1⟩ := T9.both; obtain ⟨dU0, dU1⟩ := U9.both; obtain ⟨dV0, dV1⟩ := V9.both; obtain ⟨dX0, dX1⟩ := X9.both; go_simp <;> with_reducible rfl))
      try simp only [Act.put, List.setIfInBounds_toArray, List.set_cons_zero, List.set_cons_succ]
      refine wpAnyH_take (i := 28) (oi := { dst := some 78, op := Op.load 3 (Operand.tmp 77), type := 3, pos := "law.go:38", after := #[{ on := 27, ground := Ground.data }, { on := 26, ground := Ground.guard }], guard := some (26, true) }) (v := ?_) rfl (by kernel_rfl) (by kernel_rfl) (by kernel_rfl) (fun _ _ _ h => h) (Or.inl ⟨by rfl, ?_⟩) (by trivial) ?_
      rotate_left
      (focus (intro w9 hSw; obtain ⟨s9, t9, T9, U9, V9, X9⟩ := hSw; obtain ⟨lt, c0, c1, c2, c3⟩ := s9.cells; obtain ⟨lt2, g0, g1, g2, g3⟩ := t9.cells; obtain ⟨dT0, dT1⟩ := T9.both; obtain ⟨dU0, dU1⟩ := U9.both; obtain ⟨dV0, dV1⟩ := V9.both; obtain ⟨dX0, dX1⟩ := X9.both; go_simp <;> with_reducible rfl))
      try simp only [Act.put, List.setIfInBounds_toArray, List.set_cons_zero, List.set_cons_succ]
      refine wpAnyH_take (i := 29) (oi := { dst := some 79, op := Op.fieldAddr 29 (Operand.tmp 9) 0, type := 0, pos := "law.go:38", after := #[{ on := 26, ground := Ground.guard }], guard := some (26, true) }) (v := ?_) rfl (by kernel_rfl) (by kernel_rfl) (by kernel_rfl) (fun _ _ _ h => h) (Or.inl ⟨by rfl, ?_⟩) (by trivial) ?_
      rotate_left
      (focus (intro w9 hSw; obtain ⟨s9, t9, T9, U9, V9, X9⟩ := hSw; obtain ⟨lt, c0, c1, c2, c3⟩ := s9.cells; obtain ⟨lt2, g0, g1, g2, g3⟩ := t9.cells; obtain ⟨dT0, dT1⟩ := T9.both; obtain ⟨dU0, dU1⟩ := U9.both; obtain ⟨dV0, dV1⟩ := V9.both; obtain ⟨dX0, dX1⟩ := X9.both; go_simp <;> with_reducible rfl))
      try simp only [Act.put, List.setIfInBounds_toArray, List.set_cons_zero, List.set_cons_succ]
      refine wpAnyH_take (i := 30) (oi := { dst := some 80, op := Op.load 3 (Operand.tmp 79), type := 3, pos := "law.go:38", after := #[{ on := 29, ground := Ground.data }, { on := 26, ground := Ground.guard }], guard := some (26, true) }) (v := ?_) rfl (by kernel_rfl) (by kernel_rfl) (by kernel_rfl) (fun _ _ _ h => h) (Or.inl ⟨by rfl, ?_⟩) (by trivial) ?_
      rotate_left
      (focus (intro w9 hSw; obtain ⟨s9, t9, T9, U9, V9, X9⟩ := hSw; obtain ⟨lt, c0, c1, c2, c3⟩ := s9.cells; obtain ⟨lt2, g0, g1, g2, g3⟩ := t9.cells; obtain ⟨dT0, dT1⟩ := T9.both; obtain ⟨dU0, dU1⟩ := U9.both; obtain ⟨dV0, dV1⟩ := V9.both; obtain ⟨dX0, dX1⟩ := X9.both; go_simp <;> with_reducible rfl))
      try simp only [Act.put, List.setIfInBounds_toArray, List.set_cons_zero, List.set_cons_succ]
      refine wpAnyH_take (i := 31) (oi := { dst := some 81, op := Op.binOp BinOp.eql 3 (Operand.tmp 78) (Operand.tmp 80) 3, type := 4, pos := "law.go:38", after := #[{ on := 28, ground := Ground.data }, { on := 30, ground := Ground.data }, { on := 26, ground := Ground.guard }], guard := some (26, true) }) (v := ?_) rfl (by kernel_rfl) (by kernel_rfl) (by kernel_rfl) (fun _ _ _ h => h) (Or.inl ⟨by rfl, ?_⟩) (by trivial) ?_
      rotate_left
      (focus (intro w9 hSw; obtain ⟨s9, t9, T9, U9, V9, X9⟩ := hSw; obtain ⟨lt, c0, c1, c2, c3⟩ := s9.cells; obtain ⟨lt2, g0, g1, g2, g3⟩ := t9.cells; obtain ⟨dT0, dT1⟩ := T9.both; obtain ⟨dU0, dU1⟩ := U9.both; obtain ⟨dV0, dV1⟩ := V9.both; obtain ⟨dX0, dX1⟩ := X9.both; go_simp <;> with_reducible rfl))
      try simp only [Act.put, List.setIfInBounds_toArray, List.set_cons_zero, List.set_cons_succ]
      refine wpAnyH_take (i := 32) (oi := { dst := some 82, op := Op.pick (Operand.tmp 76) (Operand.tmp 81) (Operand.const (Value.bool false)), type := 4, pos := "law.go:38", after := #[{ on := 26, ground := Ground.data }, { on := 31, ground := Ground.data }], guard := none }) (v := ?_) rfl (by kernel_rfl) (by kernel_rfl) (by kernel_rfl) (fun _ _ _ h => h) (Or.inl ⟨by rfl, ?_⟩) (by trivial) ?_
      rotate_left
      (focus (intro w9 hSw; obtain ⟨s9, t9, T9, U9, V9, X9⟩ := hSw; obtain ⟨lt, c0, c1, c2, c3⟩ := s9.cells; obtain ⟨lt2, g0, g1, g2, g3⟩ := t9.cells; obtain ⟨dT0, dT1⟩ := T9.both; obtain ⟨dU0, dU1⟩ := U9.both; obtain ⟨dV0, dV1⟩ := V9.both; obtain ⟨dX0, dX1⟩ := X9.both; go_simp <;> with_reducible rfl))
      try simp only [Act.put, List.setIfInBounds_toArray, List.set_cons_zero, List.set_cons_succ]
      refine wpAnyH_take (i := 33) (oi := { dst := some 83, op := Op.move (Operand.tmp 82), type := 4, pos := "law.go:38", after := #[{ on := 32, ground := Ground.data }, { on := 26, ground := Ground.chain }], guard := none }) (v := ?_) rfl (by kernel_rfl) (by kernel_rfl) (by kernel_rfl) (fun _ _ _ h => h) (Or.inl ⟨by rfl, ?_⟩) (by trivial) ?_
      rotate_left
      (focus (intro w9 hSw; obtain ⟨s9, t9, T9, U9, V9, X9⟩ := hSw; obtain ⟨lt, c0, c1, c2, c3⟩ := s9.cells; obtain ⟨lt2, g0, g1, g2, g3⟩ := t9.cells; obtain ⟨dT0, dT1⟩ := T9.both; obtain ⟨dU0, dU1⟩ := U9.both; obtain ⟨dV0, dV1⟩ := V9.both; obtain ⟨dX0, dX1⟩ := X9.both; go_simp <;> with_reducible rfl))
      try simp only [Act.put, List.setIfInBounds_toArray, List.set_cons_zero, List.set_cons_succ]
      refine wpAnyH_take (i := 34) (oi := { dst := some 84, op := Op.fieldAddr 29 (Operand.tmp 7) 1, type := 0, pos := "law.go:38", after := #[{ on := 33, ground := Ground.guard }], guard := some (33, true) }) (v := ?_) rfl (by kernel_rfl) (by kernel_rfl) (by kernel_rfl) (fun _ _ _ h => h) (Or.inl ⟨by rfl, ?_⟩) (by trivial) ?_
      rotate_left
      (focus (intro w9 hSw; obtain ⟨s9, t9, T9, U9, V9, X9⟩ := hSw; obtain ⟨lt, c0, c1, c2, c3⟩ := s9.cells; obtain ⟨lt2, g0, g1, g2, g3⟩ := t9.cells; obtain ⟨dT0, dT1⟩ := T9.both; obtain ⟨dU0, dU1⟩ := U9.both; obtain ⟨dV0, dV1⟩ := V9.both; obtain ⟨dX0, dX1⟩ := X9.both; go_simp <;> with_reducible rfl))
      try simp only [Act.put, List.setIfInBounds_toArray, List.set_cons_zero, List.set_cons_succ]
      refine wpAnyH_take (i := 35) (oi := { dst := some 85, op := Op.load 3 (Operand.tmp 84), type := 3, pos := "law.go:38", after := #[{ on := 34, ground := Ground.data }, { on := 33, ground := Ground.guard }], guard := some (33, true) }) (v := ?_) rfl (by kernel_rfl) (by kernel_rfl) (by kernel_rfl) (fun _ _ _ h => h) (Or.inl ⟨by rfl, ?_⟩) (by trivial) ?_
      rotate_left
      (focus (intro w9 hSw; obtain ⟨s9, t9, T9, U9, V9, X9⟩ := hSw; obtain ⟨lt, c0, c1, c2, c3⟩ := s9.cells; obtain ⟨lt2, g0, g1, g2, g3⟩ := t9.cells; obtain ⟨dT0, dT1⟩ := T9.both; obtain ⟨dU0, dU1⟩ := U9.both; obtain ⟨dV0, dV1⟩ := V9.both; obtain ⟨dX0, dX1⟩ := X9.both; go_simp <;> with_reducible rfl))
      try simp only [Act.put, List.setIfInBounds_toArray, List.set_cons_zero, List.set_cons_succ]
      refine wpAnyH_take (i := 36) (oi := { dst := some 86, op := Op.fieldAddr 29 (Operand.tmp 9) 1, type := 0, pos := "law.go:38", after := #[{ on := 33, ground := Ground.guard }], guard := some (33, true) }) (v := ?_) rfl (by kernel_rfl) (by kernel_rfl) (by kernel_rfl) (fun _ _ _ h => h) (Or.inl ⟨by rfl, ?_⟩) (by trivial) ?_
      rotate_left
      (focus (intro w9 hSw; obtain ⟨s9, t9, T9, U9, V9, X9⟩ := hSw; obtain ⟨lt, c0, c1, c2, c3⟩ := s9.cells; obtain ⟨lt2, g0, g1, g2, g3⟩ := t9.cells; obtain ⟨dT0, dT1⟩ := T9.both; obtain ⟨dU0, dU1⟩ := U9.both; obtain ⟨dV0, dV1⟩ := V9.both; obtain ⟨dX0, dX1⟩ := X9.both; go_simp <;> with_reducible rfl))
      try simp only [Act.put, List.setIfInBounds_toArray, List.set_cons_zero, List.set_cons_succ]
      refine wpAnyH_take (i := 37) (oi := { dst := some 87, op := Op.load 3 (Operand.tmp 86), type := 3, pos := "law.go:38", after := #[{ on := 36, ground := Ground.data }, { on := 33, ground := Ground.guard }], guard := some (33, true) }) (v := ?_) rfl (by kernel_rfl) (by kernel_rfl) (by kernel_rfl) (fun _ _ _ h => h) (Or.inl ⟨by rfl, ?_⟩) (by trivial) ?_
      rotate_left
      (focus (intro w9 hSw; obtain ⟨s9, t9, T9, U9, V9, X9⟩ := hSw; obtain ⟨lt, c0, c1, c2, c3⟩ := s9.cells; obtain ⟨lt2, g0, g1, g2, g3⟩ := t9.cells; obtain ⟨dT0, dT1⟩ := T9.both; obtain ⟨dU0, dU1⟩ := U9.both; obtain ⟨dV0, dV1⟩ := V9.both; obtain ⟨dX0, dX1⟩ := X9.both; go_simp <;> with_reducible rfl))
      try simp only [Act.put, List.setIfInBounds_toArray, List.set_cons_zero, List.set_cons_succ]
      refine wpAnyH_take (i := 38) (oi := { dst := some 88, op := Op.binOp BinOp.eql 3 (Operand.tmp 85) (Operand.tmp 87) 3, type := 4, pos := "law.go:38", after := #[{ on := 35, ground := Ground.data }, { on := 37, ground := Ground.data }, { on := 33, ground := Ground.guard }], guard := some (33, true) }) (v := ?_) rfl (by kernel_rfl) (by kernel_rfl) (by kernel_rfl) (fun _ _ _ h => h) (Or.inl ⟨by rfl, ?_⟩) (by trivial) ?_
      rotate_left
      (focus (intro w9 hSw; obtain ⟨s9, t9, T9, U9, V9, X9⟩ := hSw; obtain ⟨lt, c0, c1, c2, c3⟩ := s9.cells; obtain ⟨lt2, g0, g1, g2, g3⟩ := t9.cells; obtain ⟨dT0, dT1⟩ := T9.both; obtain ⟨dU0, dU1⟩ := U9.both; obtain ⟨dV0, dV1⟩ := V9.both; obtain ⟨dX0, dX1⟩ := X9.both; go_simp <;> with_reducible rfl))
      try simp only [Act.put, List.setIfInBounds_toArray, List.set_cons_zero, List.set_cons_succ]
      refine wpAnyH_take (i := 39) (oi := { dst := some 89, op := Op.pick (Operand.tmp 83) (Operand.tmp 88) (Operand.const (Value.bool false)), type := 4, pos := "law.go:38", after := #[{ on := 33, ground := Ground.data }, { on := 38, ground := Ground.data }], guard := none }) (v := ?_) rfl (by kernel_rfl) (by kernel_rfl) (by kernel_rfl) (fun _ _ _ h => h) (Or.inl ⟨by rfl, ?_⟩) (by trivial) ?_
      rotate_left
      (focus (intro w9 hSw; obtain ⟨s9, t9, T9, U9, V9, X9⟩ := hSw; obtain ⟨lt, c0, c1, c2, c3⟩ := s9.cells; obtain ⟨lt2, g0, g1, g2, g3⟩ := t9.cells; obtain ⟨dT0, dT1⟩ := T9.both; obtain ⟨dU0, dU1⟩ := U9.both; obtain ⟨dV0, dV1⟩ := V9.both; obtain ⟨dX0, dX1⟩ := X9.both; go_simp <;> with_reducible rfl))
      try simp only [Act.put, List.setIfInBounds_toArray, List.set_cons_zero, List.set_cons_succ]
      refine wpAnyH_take (i := 40) (oi := { dst := some 90, op := Op.move (Operand.tmp 89), type := 4, pos := "law.go:38", after := #[{ on := 39, ground := Ground.data }, { on := 33, ground := Ground.chain }], guard := none }) (v := ?_) rfl (by kernel_rfl) (by kernel_rfl) (by kernel_rfl) (fun _ _ _ h => h) (Or.inl ⟨by rfl, ?_⟩) (by trivial) ?_
      rotate_left
      (focus (intro w9 hSw; obtain ⟨s9, t9, T9, U9, V9, X9⟩ := hSw; obtain ⟨lt, c0, c1, c2, c3⟩ := s9.cells; obtain ⟨lt2, g0, g1, g2, g3⟩ := t9.cells; obtain ⟨dT0, dT1⟩ := T9.both; obtain ⟨dU0, dU1⟩ := U9.both; obtain ⟨dV0, dV1⟩ := V9.both; obtain ⟨dX0, dX1⟩ := X9.both; go_simp <;> with_reducible rfl))
      try simp only [Act.put, List.setIfInBounds_toArray, List.set_cons_zero, List.set_cons_succ]
      refine wpAnyH_take (i := 41) (oi := { dst := some 91, op := Op.move (Operand.tmp 8), type := 4, pos := "law.go:38", after := #[{ on := 40, ground := Ground.guard }], guard := some (40, true) }) (v := ?_) rfl (by kernel_rfl) (by kernel_rfl) (by kernel_rfl) (fun _ _ _ h => h) (Or.inl ⟨by rfl, ?_⟩) (by trivial) ?_
      rotate_left
      (focus (intro w9 hSw; obtain ⟨s9, t9, T9, U9, V9, X9⟩ := hSw; obtain ⟨lt, c0, c1, c2, c3⟩ := s9.cells; obtain ⟨lt2, g0, g1, g2, g3⟩ := t9.cells; obtain ⟨dT0, dT1⟩ := T9.both; obtain ⟨dU0, dU1⟩ := U9.both; obtain ⟨dV0, dV1⟩ := V9.both; obtain ⟨dX0, dX1⟩ := X9.both; go_simp <;> with_reducible rfl))
      try simp only [Act.put, List.setIfInBounds_toArray, List.set_cons_zero, List.set_cons_succ]
      refine wpAnyH_take (i := 42) (oi := { dst := some 92, op := Op.move (Operand.tmp 10), type := 4, pos := "law.go:38", after := #[{ on := 40, ground := Ground.guard }], guard := some (40, true) }) (v := ?_) rfl (by kernel_rfl) (by kernel_rfl) (by kernel_rfl) (fun _ _ _ h => h) (Or.inl ⟨by rfl, ?_⟩) (by trivial) ?_
      rotate_left
      (focus (intro w9 hSw; obtain ⟨s9, t9, T9, U9, V9, X9⟩ := hSw; obtain ⟨lt, c0, c1, c2, c3⟩ := s9.cells; obtain ⟨lt2, g0, g1, g2, g3⟩ := t9.cells; obtain ⟨dT0, dT1⟩ := T9.both; obtain ⟨dU0, dU1⟩ := U9.both; obtain ⟨dV0, dV1⟩ := V9.both; obtain ⟨dX0, dX1⟩ := X9.both; go_simp <;> with_reducible rfl))
      try simp only [Act.put, List.setIfInBounds_toArray, List.set_cons_zero, List.set_cons_succ]
      refine wpAnyH_take (i := 43) (oi := { dst := some 93, op := Op.binOp BinOp.eql 4 (Operand.tmp 91) (Operand.tmp 92) 4, type := 4, pos := "law.go:38", after := #[{ on := 41, ground := Ground.data }, { on := 42, ground := Ground.data }, { on := 40, ground := Ground.guard }], guard := some (40, true) }) (v := ?_) rfl (by kernel_rfl) (by kernel_rfl) (by kernel_rfl) (fun _ _ _ h => h) (Or.inl ⟨by rfl, ?_⟩) (by trivial) ?_
      rotate_left
      (focus (intro w9 hSw; obtain ⟨s9, t9, T9, U9, V9, X9⟩ := hSw; obtain ⟨lt, c0, c1, c2, c3⟩ := s9.cells; obtain ⟨lt2, g0, g1, g2, g3⟩ := t9.cells; obtain ⟨dT0, dT1⟩ := T9.both; obtain ⟨dU0, dU1⟩ := U9.both; obtain ⟨dV0, dV1⟩ := V9.both; obtain ⟨dX0, dX1⟩ := X9.both; go_simp <;> with_reducible rfl))
      try simp only [Act.put, List.setIfInBounds_toArray, List.set_cons_zero, List.set_cons_succ]
      refine wpAnyH_take (i := 44) (oi := { dst := some 94, op := Op.pick (Operand.tmp 90) (Operand.tmp 93) (Operand.const (Value.bool false)), type := 4, pos := "law.go:38", after := #[{ on := 40, ground := Ground.data }, { on := 43, ground := Ground.data }], guard := none }) (v := ?_) rfl (by kernel_rfl) (by kernel_rfl) (by kernel_rfl) (fun _ _ _ h => h) (Or.inl ⟨by rfl, ?_⟩) (by trivial) ?_
      rotate_left
      (focus (intro w9 hSw; obtain ⟨s9, t9, T9, U9, V9, X9⟩ := hSw; obtain ⟨lt, c0, c1, c2, c3⟩ := s9.cells; obtain ⟨lt2, g0, g1, g2, g3⟩ := t9.cells; obtain ⟨dT0, dT1⟩ := T9.both; obtain ⟨dU0, dU1⟩ := U9.both; obtain ⟨dV0, dV1⟩ := V9.both; obtain ⟨dX0, dX1⟩ := X9.both; go_simp <;> with_reducible rfl))
      try simp only [Act.put, List.setIfInBounds_toArray, List.set_cons_zero, List.set_cons_succ]
      refine wpAnyH_take (i := 45) (oi := { dst := some 95, op := Op.move (Operand.tmp 94), type := 4, pos := "law.go:38", after := #[{ on := 44, ground := Ground.data }, { on := 40, ground := Ground.chain }], guard := none }) (v := ?_) rfl (by kernel_rfl) (by kernel_rfl) (by kernel_rfl) (fun _ _ _ h => h) (Or.inl ⟨by rfl, ?_⟩) (by trivial) ?_
      rotate_left
      (focus (intro w9 hSw; obtain ⟨s9, t9, T9, U9, V9, X9⟩ := hSw; obtain ⟨lt, c0, c1, c2, c3⟩ := s9.cells; obtain ⟨lt2, g0, g1, g2, g3⟩ := t9.cells; obtain ⟨dT0, dT1⟩ := T9.both; obtain ⟨dU0, dU1⟩ := U9.both; obtain ⟨dV0, dV1⟩ := V9.both; obtain ⟨dX0, dX1⟩ := X9.both; go_simp <;> with_reducible rfl))
      try simp only [Act.put, List.setIfInBounds_toArray, List.set_cons_zero, List.set_cons_succ]
      refine wpAnyH_take (i := 46) (oi := { dst := some 96, op := Op.fieldAddr 29 (Operand.tmp 11) 0, type := 0, pos := "law.go:38", after := #[{ on := 45, ground := Ground.guard }], guard := some (45, true) }) (v := ?_) rfl (by kernel_rfl) (by kernel_rfl) (by kernel_rfl) (fun _ _ _ h => h) (Or.inl ⟨by rfl, ?_⟩) (by trivial) ?_
      rotate_left
      (focus (intro w9 hSw; obtain ⟨s9, t9, T9, U9, V9, X9⟩ := hSw; obtain ⟨lt, c0, c1, c2, c3⟩ := s9.cells; obtain ⟨lt2, g0, g1, g2, g3⟩ := t9.cells; obtain ⟨dT0, dT1⟩ := T9.both; obtain ⟨dU0, dU1⟩ := U9.both; obtain ⟨dV0, dV1⟩ := V9.both; obtain ⟨dX0, dX1⟩ := X9.both; go_simp <;> with_reducible rfl))
      try simp only [Act.put, List.setIfInBounds_toArray, List.set_cons_zero, List.set_cons_succ]
      refine wpAnyH_take (i := 47) (oi := { dst := some 97, op := Op.load 3 (Operand.tmp 96), type := 3, pos := "law.go:38", after := #[{ on := 46, ground := Ground.data }, { on := 45, ground := Ground.guard }], guard := some (45, true) }) (v := ?_) rfl (by kernel_rfl) (by kernel_rfl) (by kernel_rfl) (fun _ _ _ h => h) (Or.inl ⟨by rfl, ?_⟩) (by trivial) ?_
      rotate_left
      (focus (intro w9 hSw; obtain ⟨s9, t9, T9, U9, V9, X9⟩ := hSw; obtain ⟨lt, c0, c1, c2, c3⟩ := s9.cells; obtain ⟨lt2, g0, g1, g2, g3⟩ := t9.cells; obtain ⟨dT0, dT1⟩ := T9.both; obtain ⟨dU0, dU1⟩ := U9.both; obtain ⟨dV0, dV1⟩ := V9.both; obtain ⟨dX0, dX1⟩ := X9.both; go_simp <;> with_reducible rfl))
      try simp only [Act.put, List.setIfInBounds_toArray, List.set_cons_zero, List.set_cons_succ]
      refine wpAnyH_take (i := 48) (oi := { dst := some 98, op := Op.fieldAddr 29 (Operand.tmp 13) 0, type := 0, pos := "law.go:38", after := #[{ on := 45, ground := Ground.guard }], guard := some (45, true) }) (v := ?_) rfl (by kernel_rfl) (by kernel_rfl) (by kernel_rfl) (fun _ _ _ h => h) (Or.inl ⟨by rfl, ?_⟩) (by trivial) ?_
      rotate_left
      (focus (intro w9 hSw; obtain ⟨s9, t9, T9, U9, V9, X9⟩ := hSw; obtain ⟨lt, c0, c1, c2, c3⟩ := s9.cells; obtain ⟨lt2, g0, g1, g2, g3⟩ := t9.cells; obtain ⟨dT0, dT1⟩ := T9.both; obtain ⟨dU0, dU1⟩ := U9.both; obtain ⟨dV0, dV1⟩ := V9.both; obtain ⟨dX0, dX1⟩ := X9.both; go_simp <;> with_reducible rfl))
      try simp only [Act.put, List.setIfInBounds_toArray, List.set_cons_zero, List.set_cons_succ]
      refine wpAnyH_take (i := 49) (oi := { dst := some 99, op := Op.load 3 (Operand.tmp 98), type := 3, pos := "law.go:38", after := #[{ on := 48, ground := Ground.data }, { on := 45, ground := Ground.guard }], guard := some (45, true) }) (v := ?_) rfl (by kernel_rfl) (by kernel_rfl) (by kernel_rfl) (fun _ _ _ h => h) (Or.inl ⟨by rfl, ?_⟩) (by trivial) ?_
      rotate_left
      (focus (intro w9 hSw; obtain ⟨s9, t9, T9, U9, V9, X9⟩ := hSw; obtain ⟨lt, c0, c1, c2, c3⟩ := s9.cells; obtain ⟨lt2, g0, g1, g2, g3⟩ := t9.cells; obtain ⟨dT0, dT1⟩ := T9.both; obtain ⟨dU0, dU1⟩ := U9.both; obtain ⟨dV0, dV1⟩ := V9.both; obtain ⟨dX0, dX1⟩ := X9.both; go_simp <;> with_reducible rfl))
      try simp only [Act.put, List.setIfInBounds_toArray, List.set_cons_zero, List.set_cons_succ]
      refine wpAnyH_take (i := 50) (oi := { dst := some 100, op := Op.binOp BinOp.eql 3 (Operand.tmp 97) (Operand.tmp 99) 3, type := 4, pos := "law.go:38", after := #[{ on := 47, ground := Ground.data }, { on := 49, ground := Ground.data }, { on := 45, ground := Ground.guard }], guard := some (45, true) }) (v := ?_) rfl (by kernel_rfl) (by kernel_rfl) (by kernel_rfl) (fun _ _ _ h => h) (Or.inl ⟨by rfl, ?_⟩) (by trivial) ?_
      rotate_left
      (focus (intro w9 hSw; obtain ⟨s9, t9, T9, U9, V9, X9⟩ := hSw; obtain ⟨lt, c0, c1, c2, c3⟩ := s9.cells; obtain ⟨lt2, g0, g1, g2, g3⟩ := t9.cells; obtain ⟨dT0, dT1⟩ := T9.both; obtain ⟨dU0, dU1⟩ := U9.both; obtain ⟨dV0, dV1⟩ := V9.both; obtain ⟨dX0, dX1⟩ := X9.both; go_simp <;> with_reducible rfl))
      try simp only [Act.put, List.setIfInBounds_toArray, List.set_cons_zero, List.set_cons_succ]
      refine wpAnyH_take (i := 51) (oi := { dst := some 101, op := Op.pick (Operand.tmp 95) (Operand.tmp 100) (Operand.const (Value.bool false)), type := 4, pos := "law.go:38", after := #[{ on := 45, ground := Ground.data }, { on := 50, ground := Ground.data }], guard := none }) (v := ?_) rfl (by kernel_rfl) (by kernel_rfl) (by kernel_rfl) (fun _ _ _ h => h) (Or.inl ⟨by rfl, ?_⟩) (by trivial) ?_
      rotate_left
      (focus (intro w9 hSw; obtain ⟨s9, t9, T9, U9, V9, X9⟩ := hSw; obtain ⟨lt, c0, c1, c2, c3⟩ := s9.cells; obtain ⟨lt2, g0, g1, g2, g3⟩ := t9.cells; obtain ⟨dT0, dT1⟩ := T9.both; obtain ⟨dU0, dU1⟩ := U9.both; obtain ⟨dV0, dV1⟩ := V9.both; obtain ⟨dX0, dX1⟩ := X9.both; go_simp <;> with_reducible rfl))
      try simp only [Act.put, List.setIfInBounds_toArray, List.set_cons_zero, List.set_cons_succ]
      refine wpAnyH_take (i := 52) (oi := { dst := some 102, op := Op.move (Operand.tmp 101), type := 4, pos := "law.go:38", after := #[{ on := 51, ground := Ground.data }, { on := 45, ground := Ground.chain }], guard := none }) (v := ?_) rfl (by kernel_rfl) (by kernel_rfl) (by kernel_rfl) (fun _ _ _ h => h) (Or.inl ⟨by rfl, ?_⟩) (by trivial) ?_
      rotate_left
      (focus (intro w9 hSw; obtain ⟨s9, t9, T9, U9, V9, X9⟩ := hSw; obtain ⟨lt, c0, c1, c2, c3⟩ := s9.cells; obtain ⟨lt2, g0, g1, g2, g3⟩ := t9.cells; obtain ⟨dT0, dT1⟩ := T9.both; obtain ⟨dU0, dU1⟩ := U9.both; obtain ⟨dV0, dV1⟩ := V9.both; obtain ⟨dX0, dX1⟩ := X9.both; go_simp <;> with_reducible rfl))
      try simp only [Act.put, List.setIfInBounds_toArray, List.set_cons_zero, List.set_cons_succ]
      refine wpAnyH_take (i := 53) (oi := { dst := some 103, op := Op.fieldAddr 29 (Operand.tmp 11) 1, type := 0, pos := "law.go:38", after := #[{ on := 52, ground := Ground.guard }], guard := some (52, true) }) (v := ?_) rfl (by kernel_rfl) (by kernel_rfl) (by kernel_rfl) (fun _ _ _ h => h) (Or.inl ⟨by rfl, ?_⟩) (by trivial) ?_
      rotate_left
      (focus (intro w9 hSw; obtain ⟨s9, t9, T9, U9, V9, X9⟩ := hSw; obtain ⟨lt, c0, c1, c2, c3⟩ := s9.cells; obtain ⟨lt2, g0, g1, g2, g3⟩ := t9.cells; obtain ⟨dT0, dT1⟩ := T9.both; obtain ⟨dU0, dU1⟩ := U9.both; obtain ⟨dV0, dV1⟩ := V9.both; obtain ⟨dX0, dX1⟩ := X9.both; go_simp <;> with_reducible rfl))
      try simp only [Act.put, List.setIfInBounds_toArray, List.set_cons_zero, List.set_cons_succ]
      refine wpAnyH_take (i := 54) (oi := { dst := some 104, op := Op.load 3 (Operand.tmp 103), type := 3, pos := "law.go:38", after := #[{ on := 53, ground := Ground.data }, { on := 52, ground := Ground.guard }], guard := some (52, true) }) (v := ?_) rfl (by kernel_rfl) (by kernel_rfl) (by kernel_rfl) (fun _ _ _ h => h) (Or.inl ⟨by rfl, ?_⟩) (by trivial) ?_
      rotate_left
      (focus (intro w9 hSw; obtain ⟨s9, t9, T9, U9, V9, X9⟩ := hSw; obtain ⟨lt, c0, c1, c2, c3⟩ := s9.cells; obtain ⟨lt2, g0, g1, g2, g3⟩ := t9.cells; obtain ⟨dT0, dT1⟩ := T9.both; obtain ⟨dU0, dU1⟩ := U9.both; obtain ⟨dV0, dV1⟩ := V9.both; obtain ⟨dX0, dX1⟩ := X9.both; go_simp <;> with_reducible rfl))
      try simp only [Act.put, List.setIfInBounds_toArray, List.set_cons_zero, List.set_cons_succ]
      refine wpAnyH_take (i := 55) (oi := { dst := some 105, op := Op.fieldAddr 29 (Operand.tmp 13) 1, type := 0, pos := "law.go:38", after := #[{ on := 52, ground := Ground.guard }], guard := some (52, true) }) (v := ?_) rfl (by kernel_rfl) (by kernel_rfl) (by kernel_rfl) (fun _ _ _ h => h) (Or.inl ⟨by rfl, ?_⟩) (by trivial) ?_
      rotate_left
      (focus (intro w9 hSw; obtain ⟨s9, t9, T9, U9, V9, X9⟩ := hSw; obtain ⟨lt, c0, c1, c2, c3⟩ := s9.cells; obtain ⟨lt2, g0, g1, g2, g3⟩ := t9.cells; obtain ⟨dT0, dT1⟩ := T9.both; obtain ⟨dU0, dU1⟩ := U9.both; obtain ⟨dV0, dV1⟩ := V9.both; obtain ⟨dX0, dX1⟩ := X9.both; go_simp <;> with_reducible rfl))
      try simp only [Act.put, List.setIfInBounds_toArray, List.set_cons_zero, List.set_cons_succ]
      refine wpAnyH_take (i := 56) (oi := { dst := some 106, op := Op.load 3 (Operand.tmp 105), type := 3, pos := "law.go:38", after := #[{ on := 55, ground := Ground.data }, { on := 52, ground := Ground.guard }], guard := some (52, true) }) (v := ?_) rfl (by kernel_rfl) (by kernel_rfl) (by kernel_rfl) (fun _ _ _ h => h) (Or.inl ⟨by rfl, ?_⟩) (by trivial) ?_
      rotate_left
      (focus (intro w9 hSw; obtain ⟨s9, t9, T9, U9, V9, X9⟩ := hSw; obtain ⟨lt, c0, c1, c2, c3⟩ := s9.cells; obtain ⟨lt2, g0, g1, g2, g3⟩ := t9.cells; obtain ⟨dT0, dT1⟩ := T9.both; obtain ⟨dU0, dU1⟩ := U9.both; obtain ⟨dV0, dV1⟩ := V9.both; obtain ⟨dX0, dX1⟩ := X9.both; go_simp <;> with_reducible rfl))
      try simp only [Act.put, List.setIfInBounds_toArray, List.set_cons_zero, List.set_cons_succ]
      refine wpAnyH_take (i := 57) (oi := { dst := some 107, op := Op.binOp BinOp.eql 3 (Operand.tmp 104) (Operand.tmp 106) 3, type := 4, pos := "law.go:38", after := #[{ on := 54, ground := Ground.data }, { on := 56, ground := Ground.data }, { on := 52, ground := Ground.guard }], guard := some (52, true) }) (v := ?_) rfl (by kernel_rfl) (by kernel_rfl) (by kernel_rfl) (fun _ _ _ h => h) (Or.inl ⟨by rfl, ?_⟩) (by trivial) ?_
      rotate_left
      (focus (intro w9 hSw; obtain ⟨s9, t9, T9, U9, V9, X9⟩ := hSw; obtain ⟨lt, c0, c1, c2, c3⟩ := s9.cells; obtain ⟨lt2, g0, g1, g2, g3⟩ := t9.cells; obtain ⟨dT0, dT1⟩ := T9.both; obtain ⟨dU0, dU1⟩ := U9.both; obtain ⟨dV0, dV1⟩ := V9.both; obtain ⟨dX0, dX1⟩ := X9.both; go_simp <;> with_reducible rfl))
      try simp only [Act.put, List.setIfInBounds_toArray, List.set_cons_zero, List.set_cons_succ]
      refine wpAnyH_take (i := 58) (oi := { dst := some 108, op := Op.pick (Operand.tmp 102) (Operand.tmp 107) (Operand.const (Value.bool false)), type := 4, pos := "law.go:38", after := #[{ on := 52, ground := Ground.data }, { on := 57, ground := Ground.data }], guard := none }) (v := ?_) rfl (by kernel_rfl) (by kernel_rfl) (by kernel_rfl) (fun _ _ _ h => h) (Or.inl ⟨by rfl, ?_⟩) (by trivial) ?_
      rotate_left
      (focus (intro w9 hSw; obtain ⟨s9, t9, T9, U9, V9, X9⟩ := hSw; obtain ⟨lt, c0, c1, c2, c3⟩ := s9.cells; obtain ⟨lt2, g0, g1, g2, g3⟩ := t9.cells; obtain ⟨dT0, dT1⟩ := T9.both; obtain ⟨dU0, dU1⟩ := U9.both; obtain ⟨dV0, dV1⟩ := V9.both; obtain ⟨dX0, dX1⟩ := X9.both; go_simp <;> with_reducible rfl))
      try simp only [Act.put, List.setIfInBounds_toArray, List.set_cons_zero, List.set_cons_succ]
      refine wpAnyH_take (i := 59) (oi := { dst := some 109, op := Op.move (Operand.tmp 108), type := 4, pos := "law.go:38", after := #[{ on := 58, ground := Ground.data }, { on := 52, ground := Ground.chain }], guard := none }) (v := ?_) rfl (by kernel_rfl) (by kernel_rfl) (by kernel_rfl) (fun _ _ _ h => h) (Or.inl ⟨by rfl, ?_⟩) (by trivial) ?_
      rotate_left
      (focus (intro w9 hSw; obtain ⟨s9, t9, T9, U9, V9, X9⟩ := hSw; obtain ⟨lt, c0, c1, c2, c3⟩ := s9.cells; obtain ⟨lt2, g0, g1, g2, g3⟩ := t9.cells; obtain ⟨dT0, dT1⟩ := T9.both; obtain ⟨dU0, dU1⟩ := U9.both; obtain ⟨dV0, dV1⟩ := V9.both; obtain ⟨dX0, dX1⟩ := X9.both; go_simp <;> with_reducible rfl))
      try simp only [Act.put, List.setIfInBounds_toArray, List.set_cons_zero, List.set_cons_succ]
      refine wpAnyH_take (i := 60) (oi := { dst := some 110, op := Op.move (Operand.tmp 12), type := 4, pos := "law.go:38", after := #[{ on := 59, ground := Ground.guard }], guard := some (59, true) }) (v := ?_) rfl (by kernel_rfl) (by kernel_rfl) (by kernel_rfl) (fun _ _ _ h => h) (Or.inl ⟨by rfl, ?_⟩) (by trivial) ?_
      rotate_left
      (focus (intro w9 hSw; obtain ⟨s9, t9, T9, U9, V9, X9⟩ := hSw; obtain ⟨lt, c0, c1, c2, c3⟩ := s9.cells; obtain ⟨lt2, g0, g1, g2, g3⟩ := t9.cells; obtain ⟨dT0, dT1⟩ := T9.both; obtain ⟨dU0, dU1⟩ := U9.both; obtain ⟨dV0, dV1⟩ := V9.both; obtain ⟨dX0, dX1⟩ := X9.both; go_simp <;> with_reducible rfl))
      try simp only [Act.put, List.setIfInBounds_toArray, List.set_cons_zero, List.set_cons_succ]
      refine wpAnyH_take (i := 61) (oi := { dst := some 111, op := Op.move (Operand.tmp 14), type := 4, pos := "law.go:38", after := #[{ on := 59, ground := Ground.guard }], guard := some (59, true) }) (v := ?_) rfl (by kernel_rfl) (by kernel_rfl) (by kernel_rfl) (fun _ _ _ h => h) (Or.inl ⟨by rfl, ?_⟩) (by trivial) ?_
      rotate_left
      (focus (intro w9 hSw; obtain ⟨s9, t9, T9, U9, V9, X9⟩ := hSw; obtain ⟨lt, c0, c1, c2, c3⟩ := s9.cells; obtain ⟨lt2, g0, g1, g2, g3⟩ := t9.cells; obtain ⟨dT0, dT1⟩ := T9.both; obtain ⟨dU0, dU1⟩ := U9.both; obtain ⟨dV0, dV1⟩ := V9.both; obtain ⟨dX0, dX1⟩ := X9.both; go_simp <;> with_reducible rfl))
      try simp only [Act.put, List.setIfInBounds_toArray, List.set_cons_zero, List.set_cons_succ]
      refine wpAnyH_take (i := 62) (oi := { dst := some 112, op := Op.binOp BinOp.eql 4 (Operand.tmp 110) (Operand.tmp 111) 4, type := 4, pos := "law.go:38", after := #[{ on := 60, ground := Ground.data }, { on := 61, ground := Ground.data }, { on := 59, ground := Ground.guard }], guard := some (59, true) }) (v := ?_) rfl (by kernel_rfl) (by kernel_rfl) (by kernel_rfl) (fun _ _ _ h => h) (Or.inl ⟨by rfl, ?_⟩) (by trivial) ?_
      rotate_left
      (focus (intro w9 hSw; obtain ⟨s9, t9, T9, U9, V9, X9⟩ := hSw; obtain ⟨lt, c0, c1, c2, c3⟩ := s9.cells; obtain ⟨lt2, g0, g1, g2, g3⟩ := t9.cells; obtain ⟨dT0, dT1⟩ := T9.both; obtain ⟨dU0, dU1⟩ := U9.both; obtain ⟨dV0, dV1⟩ := V9.both; obtain ⟨dX0, dX1⟩ := X9.both; go_simp <;> with_reducible rfl))
      try simp only [Act.put, List.setIfInBounds_toArray, List.set_cons_zero, List.set_cons_succ]
      refine wpAnyH_take (i := 63) (oi := { dst := some 113, op := Op.pick (Operand.tmp 109) (Operand.tmp 112) (Operand.const (Value.bool false)), type := 4, pos := "law.go:38", after := #[{ on := 59, ground := Ground.data }, { on := 62, ground := Ground.data }], guard := none }) (v := ?_) rfl (by kernel_rfl) (by kernel_rfl) (by kernel_rfl) (fun _ _ _ h => h) (Or.inl ⟨by rfl, ?_⟩) (by trivial) ?_
      rotate_left
      (focus (intro w9 hSw; obtain ⟨s9, t9, T9, U9, V9, X9⟩ := hSw; obtain ⟨lt, c0, c1, c2, c3⟩ := s9.cells; obtain ⟨lt2, g0, g1, g2, g3⟩ := t9.cells; obtain ⟨dT0, dT1⟩ := T9.both; obtain ⟨dU0, dU1⟩ := U9.both; obtain ⟨dV0, dV1⟩ := V9.both; obtain ⟨dX0, dX1⟩ := X9.both; go_simp <;> with_reducible rfl))
      try simp only [Act.put, List.setIfInBounds_toArray, List.set_cons_zero, List.set_cons_succ]
      refine wpAnyH_take (i := 64) (oi := { dst := some 114, op := Op.move (Operand.tmp 113), type := 4, pos := "law.go:38", after := #[{ on := 63, ground := Ground.data }, { on := 59, ground := Ground.chain }], guard := none }) (v := ?_) rfl (by kernel_rfl) (by kernel_rfl) (by kernel_rfl) (fun _ _ _ h => h) (Or.inl ⟨by rfl, ?_⟩) (by trivial) ?_
      rotate_left
      (focus (intro w9 hSw; obtain ⟨s9, t9, T9, U9, V9, X9⟩ := hSw; obtain ⟨lt, c0, c1, c2, c3⟩ := s9.cells; obtain ⟨lt2, g0, g1, g2, g3⟩ := t9.cells; obtain ⟨dT0, dT1⟩ := T9.both; obtain ⟨dU0, dU1⟩ := U9.both; obtain ⟨dV0, dV1⟩ := V9.both; obtain ⟨dX0, dX1⟩ := X9.both; go_simp <;> with_reducible rfl))
      try simp only [Act.put, List.setIfInBounds_toArray, List.set_cons_zero, List.set_cons_succ]
      refine wpAnyH_take (i := 65) (oi := { dst := some 115, op := Op.load 25 (Operand.tmp 3), type := 25, pos := "law.go:38", after := #[{ on := 64, ground := Ground.guard }], guard := some (64, true) }) (v := ?_) rfl (by kernel_rfl) (by kernel_rfl) (by kernel_rfl) (fun _ _ _ h => h) (Or.inl ⟨by rfl, ?_⟩) (by trivial) ?_
      rotate_left
      (focus (intro w9 hSw; obtain ⟨s9, t9, T9, U9, V9, X9⟩ := hSw; obtain ⟨lt, c0, c1, c2, c3⟩ := s9.cells; obtain ⟨lt2, g0, g1, g2, g3⟩ := t9.cells; obtain ⟨dT0, dT1⟩ := T9.both; obtain ⟨dU0, dU1⟩ := U9.both; obtain ⟨dV0, dV1⟩ := V9.both; obtain ⟨dX0, dX1⟩ := X9.both; go_simp <;> with_reducible rfl))
      try simp only [Act.put, List.setIfInBounds_toArray, List.set_cons_zero, List.set_cons_succ]
      refine wpAnyH_take (i := 66) (oi := { dst := some 116, op := Op.load 25 (Operand.tmp 4), type := 25, pos := "law.go:38", after := #[{ on := 64, ground := Ground.guard }], guard := some (64, true) }) (v := ?_) rfl (by kernel_rfl) (by kernel_rfl) (by kernel_rfl) (fun _ _ _ h => h) (Or.inl ⟨by rfl, ?_⟩) (by trivial) ?_
      rotate_left
      (focus (intro w9 hSw; obtain ⟨s9, t9, T9, U9, V9, X9⟩ := hSw; obtain ⟨lt, c0, c1, c2, c3⟩ := s9.cells; obtain ⟨lt2, g0, g1, g2, g3⟩ := t9.cells; obtain ⟨dT0, dT1⟩ := T9.both; obtain ⟨dU0, dU1⟩ := U9.both; obtain ⟨dV0, dV1⟩ := V9.both; obtain ⟨dX0, dX1⟩ := X9.both; go_simp <;> with_reducible rfl))
      try simp only [Act.put, List.setIfInBounds_toArray, List.set_cons_zero, List.set_cons_succ]
      refine wpAnyH_take (i := 68) (oi := { dst := some 118, op := Op.load 25 (Operand.tmp 3), type := 25, pos := "law.go:38", after := #[{ on := 64, ground := Ground.guard }], guard := some (64, true) }) (v := ?_) rfl (by kernel_rfl) (by kernel_rfl) (by kernel_rfl) (fun _ _ _ h => h) (Or.inl ⟨by rfl, ?_⟩) (by trivial) ?_
      rotate_left
      (focus (intro w9 hSw; obtain ⟨s9, t9, T9, U9, V9, X9⟩ := hSw; obtain ⟨lt, c0, c1, c2, c3⟩ := s9.cells; obtain ⟨lt2, g0, g1, g2, g3⟩ := t9.cells; obtain ⟨dT0, dT1⟩ := T9.both; obtain ⟨dU0, dU1⟩ := U9.both; obtain ⟨dV0, dV1⟩ := V9.both; obtain ⟨dX0, dX1⟩ := X9.both; go_simp <;> with_reducible rfl))
      try simp only [Act.put, List.setIfInBounds_toArray, List.set_cons_zero, List.set_cons_succ]
      refine wpAnyH_take (i := 69) (oi := { dst := some 119, op := Op.load 25 (Operand.tmp 4), type := 25, pos := "law.go:38", after := #[{ on := 64, ground := Ground.guard }], guard := some (64, true) }) (v := ?_) rfl (by kernel_rfl) (by kernel_rfl) (by kernel_rfl) (fun _ _ _ h => h) (Or.inl ⟨by rfl, ?_⟩) (by trivial) ?_
      rotate_left
      (focus (intro w9 hSw; obtain ⟨s9, t9, T9, U9, V9, X9⟩ := hSw; obtain ⟨lt, c0, c1, c2, c3⟩ := s9.cells; obtain ⟨lt2, g0, g1, g2, g3⟩ := t9.cells; obtain ⟨dT0, dT1⟩ := T9.both; obtain ⟨dU0, dU1⟩ := U9.both; obtain ⟨dV0, dV1⟩ := V9.both; obtain ⟨dX0, dX1⟩ := X9.both; go_simp <;> with_reducible rfl))
      try simp only [Act.put, List.setIfInBounds_toArray, List.set_cons_zero, List.set_cons_succ]
      refine wpAnyH_ready (rs := [67]) (by kernel_rfl) (by simp) ?_
      refine AllReadyH.cons (o := { dst := some 117, op := Op.call { callee := Callee.value (Operand.func 24), args := #[Operand.tmp 115, Operand.tmp 116], argTypes := #[25, 25] }, type := 4, pos := "law.go:38", after := #[{ on := 65, ground := Ground.data }, { on := 66, ground := Ground.data }, { on := 64, ground := Ground.chain }, { on := 64, ground := Ground.guard }], guard := some (64, true) }) rfl (fun K hK => ?_) AllReadyH.nil
      go_simp
      refine (same_any s.z s2.z s.le).mono ?_
      rintro e wz ⟨rfl, bb⟩
      replace T := T.below bb T.lt
      replace U := U.below bb U.lt
      replace V := V.below bb V.lt
      replace X := X.below bb X.lt
      replace s := s.step bb
      replace s2 := s2.step bb
      clear bb
      go_wp2_with fail
      refine hK.out _ _ ⟨s, s2, T, U, V, X⟩ (fun _ => ?_)
      clear hK K
      try simp only [Act.put, List.setIfInBounds_toArray, List.set_cons_zero, List.set_cons_succ]
      refine wpAnyH_ready (rs := [70]) (by kernel_rfl) (by simp) ?_
      refine AllReadyH.cons (o := { dst := some 120, op := Op.call { callee := Callee.value (Operand.func 25), args := #[Operand.tmp 118, Operand.tmp 119], argTypes := #[25, 25] }, type := 4, pos := "law.go:38", after := #[{ on := 68, ground := Ground.data }, { on := 69, ground := Ground.data }, { on := 67, ground := Ground.chain }, { on := 64, ground := Ground.guard }], guard := some (64, true) }) rfl (fun K hK => ?_) AllReadyH.nil
      go_simp
      refine (rsame_any s.z s2.z s.le).mono ?_
      rintro e wz ⟨rfl, bb⟩
      replace T := T.below bb T.lt
      replace U := U.below bb U.lt
      replace V := V.below bb V.lt
      replace X := X.below bb X.lt
      replace s := s.step bb
      replace s2 := s2.step bb
      clear bb
      go_wp2_with fail
      refine hK.out _ _ ⟨s, s2, T, U, V, X⟩ (fun _ => ?_)
      clear hK K
      try simp only [Act.put, List.setIfInBounds_toArray, List.set_cons_zero, List.set_cons_succ]
      refine wpAnyH_take (i := 71) (oi := { dst := some 121, op := Op.binOp BinOp.eql 4 (Operand.tmp 117) (Operand.tmp 120) 4, type := 4, pos := "law.go:38", after := #[{ on := 67, ground := Ground.data }, { on := 70, ground := Ground.data }, { on := 64, ground := Ground.guard }], guard := some (64, true) }) (v := ?_) rfl (by kernel_rfl) (by kernel_rfl) (by kernel_rfl) (fun _ _ _ h => h) (Or.inl ⟨by rfl, ?_⟩) (by trivial) ?_
      rotate_left
      (focus (intro w9 hSw; obtain ⟨s9, t9, T9, U9, V9, X9⟩ := hSw; obtain ⟨lt, c0, c1, c2, c3⟩ := s9.cells; obtain ⟨lt2, g0, g1, g2, g3⟩ := t9.cells; obtain ⟨dT0, dT1⟩ := T9.both; obtain ⟨dU0, dU1⟩ := U9.both; obtain ⟨dV0, dV1⟩ := V9.both; obtain ⟨dX0, dX1⟩ := X9.both; go_simp <;> with_reducible rfl))
      try simp only [Act.put, List.setIfInBounds_toArray, List.set_cons_zero, List.set_cons_succ]
      refine wpAnyH_take (i := 72) (oi := { dst := some 122, op := Op.pick (Operand.tmp 114) (Operand.tmp 121) (Operand.const (Value.bool false)), type := 4, pos := "law.go:38", after := #[{ on := 64, ground := Ground.data }, { on := 71, ground := Ground.data }], guard := none }) (v := ?_) rfl (by kernel_rfl) (by kernel_rfl) (by kernel_rfl) (fun _ _ _ h => h) (Or.inl ⟨by rfl, ?_⟩) (by trivial) ?_
      rotate_left
      (focus (intro w9 hSw; obtain ⟨s9, t9, T9, U9, V9, X9⟩ := hSw; obtain ⟨lt, c0, c1, c2, c3⟩ := s9.cells; obtain ⟨lt2, g0, g1, g2, g3⟩ := t9.cells; obtain ⟨dT0, dT1⟩ := T9.both; obtain ⟨dU0, dU1⟩ := U9.both; obtain ⟨dV0, dV1⟩ := V9.both; obtain ⟨dX0, dX1⟩ := X9.both; go_simp <;> with_reducible rfl))
      try simp only [Act.put, List.setIfInBounds_toArray, List.set_cons_zero, List.set_cons_succ]
      refine wpAnyH_take (i := 73) (oi := { dst := some 6, op := Op.assign (Operand.tmp 122), type := 4, pos := "law.go:38", after := ([{ on := 72, ground := Ground.data }, { on := 70, ground := Ground.chain }, { on := 0, ground := Ground.phase }, { on := 1, ground := Ground.phase }, { on := 2, ground := Ground.phase }, { on := 3, ground := Ground.phase }, { on := 4, ground := Ground.phase }, { on := 5, ground := Ground.phase }, { on := 6, ground := Ground.phase }, { on := 7, ground := Ground.phase }, { on := 8, ground := Ground.phase }, { on := 9, ground := Ground.phase }, { on := 10, ground := Ground.phase }, { on := 11, ground := Ground.phase }, { on := 12, ground := Ground.phase }, { on := 13, ground := Ground.phase }, { on := 14, ground := Ground.phase }, { on := 15, ground := Ground.phase }, { on := 16, ground := Ground.phase }, { on := 17, ground := Ground.phase }, { on := 18, ground := Ground.phase }, { on := 19, ground := Ground.phase }, { on := 20, ground := Ground.phase }, { on := 21, ground := Ground.phase }, { on := 22, ground := Ground.phase }, { on := 23, ground := Ground.phase }, { on := 24, ground := Ground.phase }, { on := 25, ground := Ground.phase }, { on := 26, ground := Ground.phase }, { on := 27, ground := Ground.phase }, { on := 28, ground := Ground.phase }, { on := 29, ground := Ground.phase }, { on := 30, ground := Ground.phase }, { on := 31, ground := Ground.phase }, { on := 32, ground := Ground.phase }, { on := 33, ground := Ground.phase }, { on := 34, ground := Ground.phase }].append [{ on := 35, ground := Ground.phase }, { on := 36, ground := Ground.phase }, { on := 37, ground := Ground.phase }, { on := 38, ground := Ground.phase }, { on := 39, ground := Ground.phase }, { on := 40, ground := Ground.phase }, { on := 41, ground := Ground.phase }, { on := 42, ground := Ground.phase }, { on := 43, ground := Ground.phase }, { on := 44, ground := Ground.phase }, { on := 45, ground := Ground.phase }, { on := 46, ground := Ground.phase }, { on := 47, ground := Ground.phase }, { on := 48, ground := Ground.phase }, { on := 49, ground := Ground.phase }, { on := 50, ground := Ground.phase }, { on := 51, ground := Ground.phase }, { on := 52, ground := Ground.phase }, { on := 53, ground := Ground.phase }, { on := 54, ground := Ground.phase }, { on := 55, ground := Ground.phase }, { on := 56, ground := Ground.phase }, { on := 57, ground := Ground.phase }, { on := 58, ground := Ground.phase }, { on := 59, ground := Ground.phase }, { on := 60, ground := Ground.phase }, { on := 61, ground := Ground.phase }, { on := 62, ground := Ground.phase }, { on := 63, ground := Ground.phase }, { on := 64, ground := Ground.phase }, { on := 65, ground := Ground.phase }, { on := 66, ground := Ground.phase }, { on := 67, ground := Ground.phase }, { on := 68, ground := Ground.phase }, { on := 69, ground := Ground.phase }, { on := 70, ground := Ground.phase }, { on := 71, ground := Ground.phase }, { on := 72, ground := Ground.phase }]).toArray, guard := none }) (v := ?_) rfl (by kernel_rfl) (by kernel_rfl) (by kernel_rfl) (fun _ _ _ h => h) (Or.inl ⟨by rfl, ?_⟩) (by trivial) ?_
      rotate_left
      (focus (intro w9 hSw; obtain ⟨s9, t9, T9, U9, V9, X9⟩ := hSw; obtain ⟨lt, c0, c1, c2, c3⟩ := s9.cells; obtain ⟨lt2, g0, g1, g2, g3⟩ := t9.cells; obtain ⟨dT0, dT1⟩ := T9.both; obtain ⟨dU0, dU1⟩ := U9.both; obtain ⟨dV0, dV1⟩ := V9.both; obtain ⟨dX0, dX1⟩ := X9.both; go_simp <;> with_reducible rfl))
      try simp only [Act.put, List.setIfInBounds_toArray, List.set_cons_zero, List.set_cons_succ]
      refine wpAnyH_done (by kernel_rfl) ?_ _
      go_wp2_with fail
      go_ret
      exact ⟨rfl, s.b⟩
    · have gt := decide_eq_false qg
      go_enter Try.func3, Try.ntmps3
      go_wp2_with fail
      have bx := ((Below.refl w.heap.size w).alloc (Nat.le_refl _) (zo bs A L.length c A' Y.length c' fr)).alloc (by simp) (zo bs2 A2 L2.length k A2' Y2.length k' fr2)
      have s : St w ((w.alloc (zo bs A L.length c A' Y.length c' fr)).alloc (zo bs2 A2 L2.length k A2' Y2.length k' fr2)) w.heap.size bs A c A' c' fr L Y := (St.new_ hz).alloc _
      have s2 : St w ((w.alloc (zo bs A L.length c A' Y.length c' fr)).alloc (zo bs2 A2 L2.length k A2' Y2.length k' fr2)) (w.heap.size + 1) bs2 A2 k A2' k' fr2 L2 Y2 := ⟨bx, hz2.below bx, by
        have := Boxed.new_ (bs := bs2) (A := A2) (n := L2.length) (c := k) (A' := A2') (n' := Y2.length) (c' := k') (fr := fr2) (w.alloc (zo bs A L.length c A' Y.length c' fr))
        rwa [show (w.alloc (zo bs A L.length c A' Y.length c' fr)).heap.size = w.heap.size + 1 by simp] at this⟩
      generalize (w.alloc (zo bs A L.length c A' Y.length c' fr)).alloc (zo bs2 A2 L2.length k A2' Y2.length k' fr2) = w1 at s s2 ⊢
      clear bx
      obtain ⟨lt, c0, c1, c2, c3⟩ := s.cells
      obtain ⟨lt2, g0, g1, g2, g3⟩ := s2.cells
      refine (first_any _).mono ?_
      rintro e wz ⟨rfl, bb⟩
      replace s := s.step bb
      replace s2 := s2.step bb
      clear bb lt c0 c1 c2 c3 lt2 g0 g1 g2 g3
      obtain ⟨lt, c0, c1, c2, c3⟩ := s.cells
      obtain ⟨lt2, g0, g1, g2, g3⟩ := s2.cells
      go_wp2_with fail
      refine (few_any).mono ?_
      rintro e wz ⟨rfl, bb⟩
      replace s := s.step bb
      replace s2 := s2.step bb
      clear bb lt c0 c1 c2 c3 lt2 g0 g1 g2 g3
      obtain ⟨lt, c0, c1, c2, c3⟩ := s.cells
      obtain ⟨lt2, g0, g1, g2, g3⟩ := s2.cells
      rw [ft]
      go_wp2_with fail
      refine (few_any).mono ?_
      rintro e wz ⟨rfl, bb⟩
      replace s := s.step bb
      replace s2 := s2.step bb
      clear bb lt c0 c1 c2 c3 lt2 g0 g1 g2 g3
      obtain ⟨lt, c0, c1, c2, c3⟩ := s.cells
      obtain ⟨lt2, g0, g1, g2, g3⟩ := s2.cells
      rw [gt]
      go_wp2_with fail
      refine (first_any _).mono ?_
      rintro e wz ⟨rfl, bb⟩
      replace s := s.step bb
      replace s2 := s2.step bb
      clear bb lt c0 c1 c2 c3 lt2 g0 g1 g2 g3
      obtain ⟨lt, c0, c1, c2, c3⟩ := s.cells
      obtain ⟨lt2, g0, g1, g2, g3⟩ := s2.cells
      go_wp2_with fail
      go_ret
      exact ⟨rfl, s.b⟩
  · have ft := decide_eq_false qf
    go_enter Try.func3, Try.ntmps3
    go_wp2_with fail
    have bx := ((Below.refl w.heap.size w).alloc (Nat.le_refl _) (zo bs A L.length c A' Y.length c' fr)).alloc (by simp) (zo bs2 A2 L2.length k A2' Y2.length k' fr2)
    have s : St w ((w.alloc (zo bs A L.length c A' Y.length c' fr)).alloc (zo bs2 A2 L2.length k A2' Y2.length k' fr2)) w.heap.size bs A c A' c' fr L Y := (St.new_ hz).alloc _
    have s2 : St w ((w.alloc (zo bs A L.length c A' Y.length c' fr)).alloc (zo bs2 A2 L2.length k A2' Y2.length k' fr2)) (w.heap.size + 1) bs2 A2 k A2' k' fr2 L2 Y2 := ⟨bx, hz2.below bx, by
      have := Boxed.new_ (bs := bs2) (A := A2) (n := L2.length) (c := k) (A' := A2') (n' := Y2.length) (c' := k') (fr := fr2) (w.alloc (zo bs A L.length c A' Y.length c' fr))
      rwa [show (w.alloc (zo bs A L.length c A' Y.length c' fr)).heap.size = w.heap.size + 1 by simp] at this⟩
    generalize (w.alloc (zo bs A L.length c A' Y.length c' fr)).alloc (zo bs2 A2 L2.length k A2' Y2.length k' fr2) = w1 at s s2 ⊢
    clear bx
    obtain ⟨lt, c0, c1, c2, c3⟩ := s.cells
    obtain ⟨lt2, g0, g1, g2, g3⟩ := s2.cells
    refine (first_any _).mono ?_
    rintro e wz ⟨rfl, bb⟩
    replace s := s.step bb
    replace s2 := s2.step bb
    clear bb lt c0 c1 c2 c3 lt2 g0 g1 g2 g3
    obtain ⟨lt, c0, c1, c2, c3⟩ := s.cells
    obtain ⟨lt2, g0, g1, g2, g3⟩ := s2.cells
    go_wp2_with fail
    refine (few_any).mono ?_
    rintro e wz ⟨rfl, bb⟩
    replace s := s.step bb
    replace s2 := s2.step bb
    clear bb lt c0 c1 c2 c3 lt2 g0 g1 g2 g3
    obtain ⟨lt, c0, c1, c2, c3⟩ := s.cells
    obtain ⟨lt2, g0, g1, g2, g3⟩ := s2.cells
    rw [ft]
    go_wp2_with fail
    refine (first_any _).mono ?_
    rintro e wz ⟨rfl, bb⟩
    replace s := s.step bb
    replace s2 := s2.step bb
    clear bb lt c0 c1 c2 c3 lt2 g0 g1 g2 g3
    obtain ⟨lt, c0, c1, c2, c3⟩ := s.cells
    obtain ⟨lt2, g0, g1, g2, g3⟩ := s2.cells
    go_wp2_with fail
    go_ret
    exact ⟨rfl, s.b⟩
end Go.Proofs.Ytbnchbcdgffkaaa
