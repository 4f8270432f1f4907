/- vokref1.MayZone. -/
import Derived.Test.YtbnchbcdgffkaaaSt
import Derived.Test.YtbnchbcdgffkaaaRnth
import Derived.Deep.RegionHeld3
import Derived.Deep.DrawnRows
namespace Go.Proofs.Ytbnchbcdgffkaaa
open Go.RowKit
set_option linter.unusedVariables false
theorem Two.both {w : World} {p : Nat} {a b : Int} (h : Two w p a b) : w.cell? ⟨p, 0, none⟩ = some (.int .i64 a) ∧ w.cell? ⟨p, 1, none⟩ = some (.int .i64 b) := ⟨h.c0, h.c1⟩
theorem Two.drew {w : World} {p : Nat} {a b : Int} (h : Two w p a b) : Two w.drew p a b := ⟨h.blk⟩
theorem MayZ.f {bs : Int} {L : List Sh} {a b : Yr} {fr : Int} (h : MayZ bs L [a, b] fr) : MayF L [a, b] fr a b := by
  rcases h.yr with h | ⟨a', b', h⟩
  · cases h.1
  · have e := h.eq
    injection e with e1 e
    injection e with e2 e
    subst e1 e2
    exact h
theorem yr_at {w : World} {B : Nat} {A : Option Addr} {a b : Yr} (h : YrAt w B A [a, b]) : ∃ ad, A = some ad ∧ (w.cell? ad = some (.int .i64 a.m) ∧ w.cell? ⟨ad.block, ad.off + 1, none⟩ = some (.int .i64 a.n) ∧ w.cell? ⟨ad.block, ad.off + 2, none⟩ = some (.int .i64 a.w) ∧ w.cell? ⟨ad.block, ad.off + 3, none⟩ = some (.int .i64 a.s) ∧ w.cell? ⟨ad.block, ad.off + 4, none⟩ = some (.int .i64 a.o)) ∧
    (w.cell? ⟨ad.block, ad.off + 5, none⟩ = some (.int .i64 b.m) ∧ w.cell? ⟨ad.block, ad.off + 5 + 1, none⟩ = some (.int .i64 b.n) ∧ w.cell? ⟨ad.block, ad.off + 5 + 2, none⟩ = some (.int .i64 b.w) ∧ w.cell? ⟨ad.block, ad.off + 5 + 3, none⟩ = some (.int .i64 b.s) ∧ w.cell? ⟨ad.block, ad.off + 5 + 4, none⟩ = some (.int .i64 b.o)) := by
  obtain ⟨ad, e, _, h0, h1, h2, h3, h4⟩ := h 0 (by simp)
  obtain ⟨ad', e', _, g0, g1, g2, g3, g4⟩ := h 1 (by simp)
  rw [e] at e'
  injection e' with e'
  subst e'
  refine ⟨ad, e, ⟨?_, ?_, ?_, ?_, ?_⟩, ⟨?_, ?_, ?_, ?_, ?_⟩⟩
  all_goals first | (simpa [Addr.add] using h0) | (simpa [Addr.add] using h1) | (simpa [Addr.add] using h2) | (simpa [Addr.add] using h3) | (simpa [Addr.add] using h4) | (simpa [Addr.add] using g0) | (simpa [Addr.add] using g1) | (simpa [Addr.add] using g2) | (simpa [Addr.add] using g3) | (simpa [Addr.add] using g4)
theorem sh_at {w : World} {B : Nat} {ad : Addr} {L : List Sh} (h : ShAt w B (some ad) L) (k : Nat) (hk : k < L.length) : w.cell? (ad.add (k * 2)) = some (.int .i64 L[k].at_) ∧ w.cell? ⟨(ad.add (k * 2)).block, (ad.add (k * 2)).off + 1, none⟩ = some (.int .i64 L[k].off) := by
  obtain ⟨ad', e, _, h0, h1⟩ := h k hk
  injection e with e
  subst e
  exact ⟨h0, h1⟩
set_option maxRecDepth 100000 in
set_option maxHeartbeats 8000000 in
theorem rmayZone_any (bs : Int) (A : Option Addr) (c : Nat) (A' : Option Addr) (c' : Nat) (fr : Int) (L : List Sh) (Y : List Yr) (B : Nat) (w : World) (hz : ZAt w B A A' L Y) (hB : B ≤ w.heap.size) :
    Calls Try.prog 19 #[zv bs A L.length c A' Y.length c' fr] w fun e w' => e = .returned (.bool (mayZB bs L Y fr)) ∧ Below w.heap.size w w' := by
  replace hz := hz.mono hB
  clear hB
  have bx := (Below.refl w.heap.size w).alloc (Nat.le_refl _) (zo bs A L.length c A' Y.length c' fr)
  have hlm := hz.l
  have hlm' := hz.l'
  unfold maxLen at hlm hlm'
  by_cases q1 : bs < -64800
  · have q1t := decide_eq_true q1
    go_enter Try.func19, Try.ntmps19
    go_wp2_with fail
    go_ret
    exact ⟨by rw [mayZB_no fun h => absurd h.base.1 (by omega)]; rfl, bx⟩
  · have q1t := decide_eq_false q1
    by_cases q2 : 64800 < bs
    · have q2t := decide_eq_true q2
      go_enter Try.func19, Try.ntmps19
      go_wp2_with fail
      go_ret
      exact ⟨by rw [mayZB_no fun h => absurd h.base.2 (by omega)]; rfl, bx⟩
    · have q2t := decide_eq_false q2
      have hO : OffOk bs := ⟨by omega, by omega⟩
      by_cases q3 : 64 < L.length
      · have q3t : decide ((64 : Int) < (L.length : Int)) = true := decide_eq_true (by omega)
        go_enter Try.func19, Try.ntmps19
        go_wp2_with fail
        go_ret
        exact ⟨by rw [mayZB_no fun h => absurd h.sh.few (by omega)]; rfl, bx⟩
      · have q3t : decide ((64 : Int) < (L.length : Int)) = false := decide_eq_false (by omega)
        go_enter Try.func19, Try.ntmps19
        go_wp2_with fail
        have s : St w (w.alloc (zo bs A L.length c A' Y.length c' fr)) w.heap.size bs A c A' c' fr L Y := St.new_ hz
        generalize w.alloc (zo bs A L.length c A' Y.length c' fr) = w1 at s ⊢
        clear bx
        go_loopw [3, 4] (fun kv xv wr => ∃ j : Nat, j ≤ L.length ∧ kv = .int .i64 (j : Int) ∧ MayUp L j ∧ St w wr w.heap.size bs A c A' c' fr L Y) (fun kv xv _ => L.length - (intOf kv).toNat)
        case atStart => exact ⟨0, Nat.zero_le _, rfl, ⟨fun k h h2 => absurd h2 (by omega), fun k h h2 => absurd h2 (by omega)⟩, s⟩
        case round =>
          clear s
          obtain ⟨j, hj, rfl, hU, s⟩ := hrel
          obtain ⟨lt, c0, c1, c2, c3⟩ := s.cells
          by_cases hlt : j < L.length
          · obtain ⟨ad, rfl, -⟩ := s.z.s j hlt
            obtain ⟨p0, p1⟩ := sh_at s.z.s j hlt
            have i0 : (0 : Int) ≤ (j : Int) := by omega
            have i1 : (j : Int) < (L.length : Int) := by omega
            go_wp2_with fail
            have T := Two.new_ wr L[j].at_ L[j].off wr.heap.size rfl
            replace s := s.alloc (.cells #[.int .i64 L[j].at_, .int .i64 L[j].off] 29)
            obtain ⟨pT, hpT⟩ : ∃ pT, pT = wr.heap.size := ⟨_, rfl⟩
            rw [← hpT] at T ⊢
            clear hpT lt c0 c1 c2 c3 p0 p1
            generalize wr.alloc (.cells #[.int .i64 L[j].at_, .int .i64 L[j].off] 29) = wy at s T ⊢
            replace s := s.drew
            replace T := T.drew
            by_cases q1 : MayT L[j].at_
            · have q1t := decide_eq_true q1
              by_cases q2 : L[j].off < -64800
              · have q2t := decide_eq_true q2
                refine wp_region_held_drew (S := fun w9 => St w w9 w.heap.size bs (some ad) c A' c' fr L Y ∧ Two w9 pT (L[j].at_) (L[j].off)) (by kernel_rfl) ⟨s, T⟩ (fun _ => ?_)
                refine wpAnyH_take (i := 0) (oi := { dst := some 33, op := Op.fieldAddr 29 (Operand.tmp 4) 0, type := 0, pos := "ref.go:326", after := #[], guard := none }) (v := ?_) rfl (by kernel_rfl) (by kernel_rfl) (by kernel_rfl) (fun _ _ _ h => h) (Or.inl ⟨by rfl, ?_⟩) (by trivial) ?_
                rotate_left
                (focus (intro w9 hSw; obtain ⟨s9, T9⟩ := hSw; obtain ⟨lt, c0, c1, c2, c3⟩ := s9.cells; obtain ⟨fT0, fT1⟩ := T9.both; go_simp <;> with_reducible rfl))
                try simp only [Act.put, List.setIfInBounds_toArray, List.set_cons_zero, List.set_cons_succ]
                refine wpAnyH_take (i := 1) (oi := { dst := some 34, op := Op.load 3 (Operand.tmp 33), type := 3, pos := "ref.go:326", after := #[{ on := 0, ground := Ground.data }], guard := none }) (v := ?_) rfl (by kernel_rfl) (by kernel_rfl) (by kernel_rfl) (fun _ _ _ h => h) (Or.inl ⟨by rfl, ?_⟩) (by trivial) ?_
                rotate_left
                (focus (intro w9 hSw; obtain ⟨s9, T9⟩ := hSw; obtain ⟨lt, c0, c1, c2, c3⟩ := s9.cells; obtain ⟨fT0, fT1⟩ := T9.both; go_simp <;> with_reducible rfl))
                try simp only [Act.put, List.setIfInBounds_toArray, List.set_cons_zero, List.set_cons_succ]
                refine wpAnyH_ready (rs := [2]) (by kernel_rfl) (by simp) ?_
                refine AllReadyH.cons (o := { dst := some 35, op := Op.call { callee := Callee.value (Operand.func 33), args := #[Operand.tmp 34], argTypes := #[3] }, type := 4, pos := "ref.go:326", after := #[{ on := 1, ground := Ground.data }], guard := none }) rfl (fun K hK => ?_) AllReadyH.nil
                go_simp
                refine (rmay_any _ _).mono ?_
                rintro e w3 ⟨rfl, rfl⟩
                rw [q1t]
                go_wp2_with fail
                refine hK.out _ _ ⟨s, T⟩ (fun _ => ?_)
                clear hK K
                try simp only [Act.put, List.setIfInBounds_toArray, List.set_cons_zero, List.set_cons_succ]
                refine wpAnyH_take (i := 3) (oi := { dst := some 36, op := Op.unOp UnOp.not 4 (Operand.tmp 35), type := 4, pos := "ref.go:326", after := #[{ on := 2, ground := Ground.data }], guard := none }) (v := ?_) rfl (by kernel_rfl) (by kernel_rfl) (by kernel_rfl) (fun _ _ _ h => h) (Or.inl ⟨by rfl, ?_⟩) (by trivial) ?_
                rotate_left
                (focus (intro w9 hSw; obtain ⟨s9, T9⟩ := hSw; obtain ⟨lt, c0, c1, c2, c3⟩ := s9.cells; obtain ⟨fT0, fT1⟩ := T9.both; go_simp <;> with_reducible rfl))
                try simp only [Act.put, List.setIfInBounds_toArray, List.set_cons_zero, List.set_cons_succ]
                refine wpAnyH_take (i := 4) (oi := { dst := some 37, op := Op.move (Operand.tmp 36), type := 4, pos := "ref.go:326", after := #[{ on := 3, ground := Ground.data }, { on := 2, ground := Ground.chain }], guard := none }) (v := ?_) rfl (by kernel_rfl) (by kernel_rfl) (by kernel_rfl) (fun _ _ _ h => h) (Or.inl ⟨by rfl, ?_⟩) (by trivial) ?_
                rotate_left
                (focus (intro w9 hSw; obtain ⟨s9, T9⟩ := hSw; obtain ⟨lt, c0, c1, c2, c3⟩ := s9.cells; obtain ⟨fT0, fT1⟩ := T9.both; go_simp <;> with_reducible rfl))
                try simp only [Act.put, List.setIfInBounds_toArray, List.set_cons_zero, List.set_cons_succ]
                refine wpAnyH_take (i := 5) (oi := { dst := some 38, op := Op.fieldAddr 29 (Operand.tmp 4) 1, type := 0, pos := "ref.go:326", after := #[{ on := 4, ground := Ground.guard }], guard := some (4, false) }) (v := ?_) rfl (by kernel_rfl) (by kernel_rfl) (by kernel_rfl) (fun _ _ _ h => h) (Or.inl ⟨by rfl, ?_⟩) (by trivial) ?_
                rotate_left
                (focus (intro w9 hSw; obtain ⟨s9, T9⟩ := hSw; obtain ⟨lt, c0, c1, c2, c3⟩ := s9.cells; obtain ⟨fT0, fT1⟩ := T9.both; go_simp <;> with_reducible rfl))
                try simp only [Act.put, List.setIfInBounds_toArray, List.set_cons_zero, List.set_cons_succ]
                refine wpAnyH_take (i := 6) (oi := { dst := some 39, op := Op.load 3 (Operand.tmp 38), type := 3, pos := "ref.go:326", after := #[{ on := 5, ground := Ground.data }, { on := 4, ground := Ground.guard }], guard := some (4, false) }) (v := ?_) rfl (by kernel_rfl) (by kernel_rfl) (by kernel_rfl) (fun _ _ _ h => h) (Or.inl ⟨by rfl, ?_⟩) (by trivial) ?_
                rotate_left
                (focus (intro w9 hSw; obtain ⟨s9, T9⟩ := hSw; obtain ⟨lt, c0, c1, c2, c3⟩ := s9.cells; obtain ⟨fT0, fT1⟩ := T9.both; go_simp <;> with_reducible rfl))
                try simp only [Act.put, List.setIfInBounds_toArray, List.set_cons_zero, List.set_cons_succ]
                refine wpAnyH_take (i := 7) (oi := { dst := some 40, op := Op.binOp BinOp.lss 3 (Operand.tmp 39) (Operand.const (Value.int IntKind.i64 (-64800))) 3, type := 4, pos := "ref.go:326", after := #[{ on := 6, ground := Ground.data }, { on := 4, ground := Ground.guard }], guard := some (4, false) }) (v := ?_) rfl (by kernel_rfl) (by kernel_rfl) (by kernel_rfl) (fun _ _ _ h => h) (Or.inl ⟨by rfl, ?_⟩) (by trivial) ?_
                rotate_left
                (focus (intro w9 hSw; obtain ⟨s9, T9⟩ := hSw; obtain ⟨lt, c0, c1, c2, c3⟩ := s9.cells; obtain ⟨fT0, fT1⟩ := T9.both; go_simp <;> with_reducible rfl))
                try simp only [Act.put, List.setIfInBounds_toArray, List.set_cons_zero, List.set_cons_succ]
                refine wpAnyH_take (i := 8) (oi := { dst := some 41, op := Op.pick (Operand.tmp 37) (Operand.const (Value.bool true)) (Operand.tmp 40), type := 4, pos := "ref.go:326", after := #[{ on := 4, ground := Ground.data }, { on := 7, ground := Ground.data }], guard := none }) (v := ?_) rfl (by kernel_rfl) (by kernel_rfl) (by kernel_rfl) (fun _ _ _ h => h) (Or.inl ⟨by rfl, ?_⟩) (by trivial) ?_
                rotate_left
                (focus (intro w9 hSw; obtain ⟨s9, T9⟩ := hSw; obtain ⟨lt, c0, c1, c2, c3⟩ := s9.cells; obtain ⟨fT0, fT1⟩ := T9.both; go_simp <;> with_reducible rfl))
                try simp only [Act.put, List.setIfInBounds_toArray, List.set_cons_zero, List.set_cons_succ]
                refine wpAnyH_take (i := 9) (oi := { dst := some 42, op := Op.move (Operand.tmp 41), type := 4, pos := "ref.go:326", after := #[{ on := 8, ground := Ground.data }, { on := 4, ground := Ground.chain }], guard := none }) (v := ?_) rfl (by kernel_rfl) (by kernel_rfl) (by kernel_rfl) (fun _ _ _ h => h) (Or.inl ⟨by rfl, ?_⟩) (by trivial) ?_
                rotate_left
                (focus (intro w9 hSw; obtain ⟨s9, T9⟩ := hSw; obtain ⟨lt, c0, c1, c2, c3⟩ := s9.cells; obtain ⟨fT0, fT1⟩ := T9.both; go_simp <;> with_reducible rfl))
                try simp only [Act.put, List.setIfInBounds_toArray, List.set_cons_zero, List.set_cons_succ]
                refine wpAnyH_take (i := 10) (oi := { dst := some 43, op := Op.fieldAddr 29 (Operand.tmp 4) 1, type := 0, pos := "ref.go:326", after := #[{ on := 9, ground := Ground.guard }], guard := some (9, false) }) (v := undef) rfl (by kernel_rfl) (by kernel_rfl) (by kernel_rfl) (fun _ _ _ h => h) (Or.inr ⟨by rfl, rfl⟩) (by trivial) ?_
                try simp only [Act.put, List.setIfInBounds_toArray, List.set_cons_zero, List.set_cons_succ]
                refine wpAnyH_take (i := 11) (oi := { dst := some 44, op := Op.load 3 (Operand.tmp 43), type := 3, pos := "ref.go:326", after := #[{ on := 10, ground := Ground.data }, { on := 9, ground := Ground.guard }], guard := some (9, false) }) (v := undef) rfl (by kernel_rfl) (by kernel_rfl) (by kernel_rfl) (fun _ _ _ h => h) (Or.inr ⟨by rfl, rfl⟩) (by trivial) ?_
                try simp only [Act.put, List.setIfInBounds_toArray, List.set_cons_zero, List.set_cons_succ]
                refine wpAnyH_take (i := 12) (oi := { dst := some 45, op := Op.binOp BinOp.gtr 3 (Operand.tmp 44) (Operand.const (Value.int IntKind.i64 64800)) 3, type := 4, pos := "ref.go:326", after := #[{ on := 11, ground := Ground.data }, { on := 9, ground := Ground.guard }], guard := some (9, false) }) (v := undef) rfl (by kernel_rfl) (by kernel_rfl) (by kernel_rfl) (fun _ _ _ h => h) (Or.inr ⟨by rfl, rfl⟩) (by trivial) ?_
                try simp only [Act.put, List.setIfInBounds_toArray, List.set_cons_zero, List.set_cons_succ]
                refine wpAnyH_take (i := 13) (oi := { dst := some 46, op := Op.pick (Operand.tmp 42) (Operand.const (Value.bool true)) (Operand.tmp 45), type := 4, pos := "ref.go:326", after := #[{ on := 9, ground := Ground.data }, { on := 12, ground := Ground.data }], guard := none }) (v := ?_) rfl (by kernel_rfl) (by kernel_rfl) (by kernel_rfl) (fun _ _ _ h => h) (Or.inl ⟨by rfl, ?_⟩) (by trivial) ?_
                rotate_left
                (focus (intro w9 hSw; obtain ⟨s9, T9⟩ := hSw; obtain ⟨lt, c0, c1, c2, c3⟩ := s9.cells; obtain ⟨fT0, fT1⟩ := T9.both; go_simp <;> with_reducible rfl))
                try simp only [Act.put, List.setIfInBounds_toArray, List.set_cons_zero, List.set_cons_succ]
                refine wpAnyH_take (i := 14) (oi := { dst := some 47, op := Op.move (Operand.tmp 46), type := 4, pos := "ref.go:326", after := #[{ on := 13, ground := Ground.data }, { on := 9, ground := Ground.chain }], guard := none }) (v := ?_) rfl (by kernel_rfl) (by kernel_rfl) (by kernel_rfl) (fun _ _ _ h => h) (Or.inl ⟨by rfl, ?_⟩) (by trivial) ?_
                rotate_left
                (focus (intro w9 hSw; obtain ⟨s9, T9⟩ := hSw; obtain ⟨lt, c0, c1, c2, c3⟩ := s9.cells; obtain ⟨fT0, fT1⟩ := T9.both; go_simp <;> with_reducible rfl))
                try simp only [Act.put, List.setIfInBounds_toArray, List.set_cons_zero, List.set_cons_succ]
                refine wpAnyH_take (i := 15) (oi := { dst := some 48, op := Op.move (Operand.tmp 3), type := 3, pos := "ref.go:326", after := #[{ on := 14, ground := Ground.guard }], guard := some (14, false) }) (v := undef) rfl (by kernel_rfl) (by kernel_rfl) (by kernel_rfl) (fun _ _ _ h => h) (Or.inr ⟨by rfl, rfl⟩) (by trivial) ?_
                try simp only [Act.put, List.setIfInBounds_toArray, List.set_cons_zero, List.set_cons_succ]
                refine wpAnyH_take (i := 16) (oi := { dst := some 49, op := Op.binOp BinOp.gtr 3 (Operand.tmp 48) (Operand.const (Value.int IntKind.i64 0)) 3, type := 4, pos := "ref.go:326", after := #[{ on := 15, ground := Ground.data }, { on := 14, ground := Ground.guard }], guard := some (14, false) }) (v := undef) rfl (by kernel_rfl) (by kernel_rfl) (by kernel_rfl) (fun _ _ _ h => h) (Or.inr ⟨by rfl, rfl⟩) (by trivial) ?_
                try simp only [Act.put, List.setIfInBounds_toArray, List.set_cons_zero, List.set_cons_succ]
                refine wpAnyH_take (i := 17) (oi := { dst := some 50, op := Op.move (Operand.tmp 49), type := 4, pos := "ref.go:326", after := #[{ on := 16, ground := Ground.data }, { on := 14, ground := Ground.chain }, { on := 14, ground := Ground.guard }], guard := some (14, false) }) (v := undef) rfl (by kernel_rfl) (by kernel_rfl) (by kernel_rfl) (fun _ _ _ h => h) (Or.inr ⟨by rfl, rfl⟩) (by trivial) ?_
                try simp only [Act.put, List.setIfInBounds_toArray, List.set_cons_zero, List.set_cons_succ]
                refine wpAnyH_take (i := 18) (oi := { dst := some 51, op := Op.fieldAddr 29 (Operand.tmp 4) 0, type := 0, pos := "ref.go:326", after := #[{ on := 17, ground := Ground.guard }], guard := some (17, true) }) (v := undef) rfl (by kernel_rfl) (by kernel_rfl) (by kernel_rfl) (fun _ _ _ h => h) (Or.inr ⟨by rfl, rfl⟩) (by trivial) ?_
                try simp only [Act.put, List.setIfInBounds_toArray, List.set_cons_zero, List.set_cons_succ]
                refine wpAnyH_take (i := 19) (oi := { dst := some 52, op := Op.load 3 (Operand.tmp 51), type := 3, pos := "ref.go:326", after := #[{ on := 18, ground := Ground.data }, { on := 17, ground := Ground.guard }], guard := some (17, true) }) (v := undef) rfl (by kernel_rfl) (by kernel_rfl) (by kernel_rfl) (fun _ _ _ h => h) (Or.inr ⟨by rfl, rfl⟩) (by trivial) ?_
                try simp only [Act.put, List.setIfInBounds_toArray, List.set_cons_zero, List.set_cons_succ]
                refine wpAnyH_take (i := 20) (oi := { dst := some 53, op := Op.fieldAddr 25 (Operand.tmp 1) 1, type := 0, pos := "ref.go:326", after := #[{ on := 17, ground := Ground.guard }], guard := some (17, true) }) (v := undef) rfl (by kernel_rfl) (by kernel_rfl) (by kernel_rfl) (fun _ _ _ h => h) (Or.inr ⟨by rfl, rfl⟩) (by trivial) ?_
                try simp only [Act.put, List.setIfInBounds_toArray, List.set_cons_zero, List.set_cons_succ]
                refine wpAnyH_take (i := 21) (oi := { dst := some 54, op := Op.load 22 (Operand.tmp 53), type := 22, pos := "ref.go:326", after := #[{ on := 20, ground := Ground.data }, { on := 17, ground := Ground.guard }], guard := some (17, true) }) (v := undef) rfl (by kernel_rfl) (by kernel_rfl) (by kernel_rfl) (fun _ _ _ h => h) (Or.inr ⟨by rfl, rfl⟩) (by trivial) ?_
                try simp only [Act.put, List.setIfInBounds_toArray, List.set_cons_zero, List.set_cons_succ]
                refine wpAnyH_take (i := 22) (oi := { dst := some 55, op := Op.move (Operand.tmp 3), type := 3, pos := "ref.go:326", after := #[{ on := 17, ground := Ground.guard }], guard := some (17, true) }) (v := undef) rfl (by kernel_rfl) (by kernel_rfl) (by kernel_rfl) (fun _ _ _ h => h) (Or.inr ⟨by rfl, rfl⟩) (by trivial) ?_
                try simp only [Act.put, List.setIfInBounds_toArray, List.set_cons_zero, List.set_cons_succ]
                refine wpAnyH_take (i := 23) (oi := { dst := some 56, op := Op.binOp BinOp.sub 3 (Operand.tmp 55) (Operand.const (Value.int IntKind.i64 1)) 3, type := 3, pos := "ref.go:326", after := #[{ on := 22, ground := Ground.data }, { on := 17, ground := Ground.guard }], guard := some (17, true) }) (v := undef) rfl (by kernel_rfl) (by kernel_rfl) (by kernel_rfl) (fun _ _ _ h => h) (Or.inr ⟨by rfl, rfl⟩) (by trivial) ?_
                try simp only [Act.put, List.setIfInBounds_toArray, List.set_cons_zero, List.set_cons_succ]
                refine wpAnyH_take (i := 24) (oi := { dst := some 57, op := Op.indexAddr 22 (Operand.tmp 54) (Operand.tmp 56), type := 0, pos := "ref.go:326", after := #[{ on := 21, ground := Ground.data }, { on := 23, ground := Ground.data }, { on := 17, ground := Ground.guard }], guard := some (17, true) }) (v := undef) rfl (by kernel_rfl) (by kernel_rfl) (by kernel_rfl) (fun _ _ _ h => h) (Or.inr ⟨by rfl, rfl⟩) (by trivial) ?_
                try simp only [Act.put, List.setIfInBounds_toArray, List.set_cons_zero, List.set_cons_succ]
                refine wpAnyH_take (i := 25) (oi := { dst := some 58, op := Op.fieldAddr 29 (Operand.tmp 57) 0, type := 0, pos := "ref.go:326", after := #[{ on := 24, ground := Ground.data }, { on := 17, ground := Ground.guard }], guard := some (17, true) }) (v := undef) rfl (by kernel_rfl) (by kernel_rfl) (by kernel_rfl) (fun _ _ _ h => h) (Or.inr ⟨by rfl, rfl⟩) (by trivial) ?_
                try simp only [Act.put, List.setIfInBounds_toArray, List.set_cons_zero, List.set_cons_succ]
                refine wpAnyH_take (i := 26) (oi := { dst := some 59, op := Op.load 3 (Operand.tmp 58), type := 3, pos := "ref.go:326", after := #[{ on := 25, ground := Ground.data }, { on := 17, ground := Ground.guard }], guard := some (17, true) }) (v := undef) rfl (by kernel_rfl) (by kernel_rfl) (by kernel_rfl) (fun _ _ _ h => h) (Or.inr ⟨by rfl, rfl⟩) (by trivial) ?_
                try simp only [Act.put, List.setIfInBounds_toArray, List.set_cons_zero, List.set_cons_succ]
                refine wpAnyH_take (i := 27) (oi := { dst := some 60, op := Op.binOp BinOp.sub 3 (Operand.tmp 52) (Operand.tmp 59) 3, type := 3, pos := "ref.go:326", after := #[{ on := 19, ground := Ground.data }, { on := 26, ground := Ground.data }, { on := 17, ground := Ground.guard }], guard := some (17, true) }) (v := undef) rfl (by kernel_rfl) (by kernel_rfl) (by kernel_rfl) (fun _ _ _ h => h) (Or.inr ⟨by rfl, rfl⟩) (by trivial) ?_
                try simp only [Act.put, List.setIfInBounds_toArray, List.set_cons_zero, List.set_cons_succ]
                refine wpAnyH_take (i := 28) (oi := { dst := some 61, op := Op.binOp BinOp.lss 3 (Operand.tmp 60) (Operand.const (Value.int IntKind.i64 200000)) 3, type := 4, pos := "ref.go:326", after := #[{ on := 27, ground := Ground.data }, { on := 17, ground := Ground.guard }], guard := some (17, true) }) (v := undef) rfl (by kernel_rfl) (by kernel_rfl) (by kernel_rfl) (fun _ _ _ h => h) (Or.inr ⟨by rfl, rfl⟩) (by trivial) ?_
                try simp only [Act.put, List.setIfInBounds_toArray, List.set_cons_zero, List.set_cons_succ]
                refine wpAnyH_take (i := 29) (oi := { dst := some 62, op := Op.pick (Operand.tmp 50) (Operand.tmp 61) (Operand.const (Value.bool false)), type := 4, pos := "ref.go:326", after := #[{ on := 17, ground := Ground.data }, { on := 28, ground := Ground.data }, { on := 14, ground := Ground.guard }], guard := some (14, false) }) (v := undef) rfl (by kernel_rfl) (by kernel_rfl) (by kernel_rfl) (fun _ _ _ h => h) (Or.inr ⟨by rfl, rfl⟩) (by trivial) ?_
                try simp only [Act.put, List.setIfInBounds_toArray, List.set_cons_zero, List.set_cons_succ]
                refine wpAnyH_take (i := 30) (oi := { dst := some 63, op := Op.pick (Operand.tmp 47) (Operand.const (Value.bool true)) (Operand.tmp 62), type := 4, pos := "ref.go:326", after := #[{ on := 14, ground := Ground.data }, { on := 29, ground := Ground.data }], guard := none }) (v := ?_) rfl (by kernel_rfl) (by kernel_rfl) (by kernel_rfl) (fun _ _ _ h => h) (Or.inl ⟨by rfl, ?_⟩) (by trivial) ?_
                rotate_left
                (focus (intro w9 hSw; obtain ⟨s9, T9⟩ := hSw; obtain ⟨lt, c0, c1, c2, c3⟩ := s9.cells; obtain ⟨fT0, fT1⟩ := T9.both; go_simp <;> with_reducible rfl))
                try simp only [Act.put, List.setIfInBounds_toArray, List.set_cons_zero, List.set_cons_succ]
                refine wpAnyH_done (by kernel_rfl) ?_ _
                go_wp2_with fail
                go_ret
                exact ⟨by rw [mayZB_no fun h => absurd (h.sh.up.ok j hlt hlt).2.1 (by omega)]; rfl, s.b⟩
              · have q2t := decide_eq_false q2
                by_cases q2b : 64800 < L[j].off
                · have q2bt := decide_eq_true q2b
                  refine wp_region_held_drew (S := fun w9 => St w w9 w.heap.size bs (some ad) c A' c' fr L Y ∧ Two w9 pT (L[j].at_) (L[j].off)) (by kernel_rfl) ⟨s, T⟩ (fun _ => ?_)
                  refine wpAnyH_take (i := 0) (oi := { dst := some 33, op := Op.fieldAddr 29 (Operand.tmp 4) 0, type := 0, pos := "ref.go:326", after := #[], guard := none }) (v := ?_) rfl (by kernel_rfl) (by kernel_rfl) (by kernel_rfl) (fun _ _ _ h => h) (Or.inl ⟨by rfl, ?_⟩) (by trivial) ?_
                  rotate_left
                  (focus (intro w9 hSw; obtain ⟨s9, T9⟩ := hSw; obtain ⟨lt, c0, c1, c2, c3⟩ := s9.cells; obtain ⟨fT0, fT1⟩ := T9.both; go_simp <;> with_reducible rfl))
                  try simp only [Act.put, List.setIfInBounds_toArray, List.set_cons_zero, List.set_cons_succ]
                  refine wpAnyH_take (i := 1) (oi := { dst := some 34, op := Op.load 3 (Operand.tmp 33), type := 3, pos := "ref.go:326", after := #[{ on := 0, ground := Ground.data }], guard := none }) (v := ?_) rfl (by kernel_rfl) (by kernel_rfl) (by kernel_rfl) (fun _ _ _ h => h) (Or.inl ⟨by rfl, ?_⟩) (by trivial) ?_
                  rotate_left
                  (focus (intro w9 hSw; obtain ⟨s9, T9⟩ := hSw; obtain ⟨lt, c0, c1, c2, c3⟩ := s9.cells; obtain ⟨fT0, fT1⟩ := T9.both; go_simp <;> with_reducible rfl))
                  try simp only [Act.put, List.setIfInBounds_toArray, List.set_cons_zero, List.set_cons_succ]
                  refine wpAnyH_ready (rs := [2]) (by kernel_rfl) (by simp) ?_
                  refine AllReadyH.cons (o := { dst := some 35, op := Op.call { callee := Callee.value (Operand.func 33), args := #[Operand.tmp 34], argTypes := #[3] }, type := 4, pos := "ref.go:326", after := #[{ on := 1, ground := Ground.data }], guard := none }) rfl (fun K hK => ?_) AllReadyH.nil
                  go_simp
                  refine (rmay_any _ _).mono ?_
                  rintro e w3 ⟨rfl, rfl⟩
                  rw [q1t]
                  go_wp2_with fail
                  refine hK.out _ _ ⟨s, T⟩ (fun _ => ?_)
                  clear hK K
                  try simp only [Act.put, List.setIfInBounds_toArray, List.set_cons_zero, List.set_cons_succ]
                  refine wpAnyH_take (i := 3) (oi := { dst := some 36, op := Op.unOp UnOp.not 4 (Operand.tmp 35), type := 4, pos := "ref.go:326", after := #[{ on := 2, ground := Ground.data }], guard := none }) (v := ?_) rfl (by kernel_rfl) (by kernel_rfl) (by kernel_rfl) (fun _ _ _ h => h) (Or.inl ⟨by rfl, ?_⟩) (by trivial) ?_
                  rotate_left
                  (focus (intro w9 hSw; obtain ⟨s9, T9⟩ := hSw; obtain ⟨lt, c0, c1, c2, c3⟩ := s9.cells; obtain ⟨fT0, fT1⟩ := T9.both; go_simp <;> with_reducible rfl))
                  try simp only [Act.put, List.setIfInBounds_toArray, List.set_cons_zero, List.set_cons_succ]
                  refine wpAnyH_take (i := 4) (oi := { dst := some 37, op := Op.move (Operand.tmp 36), type := 4, pos := "ref.go:326", after := #[{ on := 3, ground := Ground.data }, { on := 2, ground := Ground.chain }], guard := none }) (v := ?_) rfl (by kernel_rfl) (by kernel_rfl) (by kernel_rfl) (fun _ _ _ h => h) (Or.inl ⟨by rfl, ?_⟩) (by trivial) ?_
                  rotate_left
                  (focus (intro w9 hSw; obtain ⟨s9, T9⟩ := hSw; obtain ⟨lt, c0, c1, c2, c3⟩ := s9.cells; obtain ⟨fT0, fT1⟩ := T9.both; go_simp <;> with_reducible rfl))
                  try simp only [Act.put, List.setIfInBounds_toArray, List.set_cons_zero, List.set_cons_succ]
                  refine wpAnyH_take (i := 5) (oi := { dst := some 38, op := Op.fieldAddr 29 (Operand.tmp 4) 1, type := 0, pos := "ref.go:326", after := #[{ on := 4, ground := Ground.guard }], guard := some (4, false) }) (v := ?_) rfl (by kernel_rfl) (by kernel_rfl) (by kernel_rfl) (fun _ _ _ h => h) (Or.inl ⟨by rfl, ?_⟩) (by trivial) ?_
                  rotate_left
                  (focus (intro w9 hSw; obtain ⟨s9, T9⟩ := hSw; obtain ⟨lt, c0, c1, c2, c3⟩ := s9.cells; obtain ⟨fT0, fT1⟩ := T9.both; go_simp <;> with_reducible rfl))
                  try simp only [Act.put, List.setIfInBounds_toArray, List.set_cons_zero, List.set_cons_succ]
                  refine wpAnyH_take (i := 6) (oi := { dst := some 39, op := Op.load 3 (Operand.tmp 38), type := 3, pos := "ref.go:326", after := #[{ on := 5, ground := Ground.data }, { on := 4, ground := Ground.guard }], guard := some (4, false) }) (v := ?_) rfl (by kernel_rfl) (by kernel_rfl) (by kernel_rfl) (fun _ _ _ h => h) (Or.inl ⟨by rfl, ?_⟩) (by trivial) ?_
                  rotate_left
                  (focus (intro w9 hSw; obtain ⟨s9, T9⟩ := hSw; obtain ⟨lt, c0, c1, c2, c3⟩ := s9.cells; obtain ⟨fT0, fT1⟩ := T9.both; go_simp <;> with_reducible rfl))
                  try simp only [Act.put, List.setIfInBounds_toArray, List.set_cons_zero, List.set_cons_succ]
                  refine wpAnyH_take (i := 7) (oi := { dst := some 40, op := Op.binOp BinOp.lss 3 (Operand.tmp 39) (Operand.const (Value.int IntKind.i64 (-64800))) 3, type := 4, pos := "ref.go:326", after := #[{ on := 6, ground := Ground.data }, { on := 4, ground := Ground.guard }], guard := some (4, false) }) (v := ?_) rfl (by kernel_rfl) (by kernel_rfl) (by kernel_rfl) (fun _ _ _ h => h) (Or.inl ⟨by rfl, ?_⟩) (by trivial) ?_
                  rotate_left
                  (focus (intro w9 hSw; obtain ⟨s9, T9⟩ := hSw; obtain ⟨lt, c0, c1, c2, c3⟩ := s9.cells; obtain ⟨fT0, fT1⟩ := T9.both; go_simp <;> with_reducible rfl))
                  try simp only [Act.put, List.setIfInBounds_toArray, List.set_cons_zero, List.set_cons_succ]
                  refine wpAnyH_take (i := 8) (oi := { dst := some 41, op := Op.pick (Operand.tmp 37) (Operand.const (Value.bool true)) (Operand.tmp 40), type := 4, pos := "ref.go:326", after := #[{ on := 4, ground := Ground.data }, { on := 7, ground := Ground.data }], guard := none }) (v := ?_) rfl (by kernel_rfl) (by kernel_rfl) (by kernel_rfl) (fun _ _ _ h => h) (Or.inl ⟨by rfl, ?_⟩) (by trivial) ?_
                  rotate_left
                  (focus (intro w9 hSw; obtain ⟨s9, T9⟩ := hSw; obtain ⟨lt, c0, c1, c2, c3⟩ := s9.cells; obtain ⟨fT0, fT1⟩ := T9.both; go_simp <;> with_reducible rfl))
                  try simp only [Act.put, List.setIfInBounds_toArray, List.set_cons_zero, List.set_cons_succ]
                  refine wpAnyH_take (i := 9) (oi := { dst := some 42, op := Op.move (Operand.tmp 41), type := 4, pos := "ref.go:326", after := #[{ on := 8, ground := Ground.data }, { on := 4, ground := Ground.chain }], guard := none }) (v := ?_) rfl (by kernel_rfl) (by kernel_rfl) (by kernel_rfl) (fun _ _ _ h => h) (Or.inl ⟨by rfl, ?_⟩) (by trivial) ?_
                  rotate_left
                  (focus (intro w9 hSw; obtain ⟨s9, T9⟩ := hSw; obtain ⟨lt, c0, c1, c2, c3⟩ := s9.cells; obtain ⟨fT0, fT1⟩ := T9.both; go_simp <;> with_reducible rfl))
                  try simp only [Act.put, List.setIfInBounds_toArray, List.set_cons_zero, List.set_cons_succ]
                  refine wpAnyH_take (i := 10) (oi := { dst := some 43, op := Op.fieldAddr 29 (Operand.tmp 4) 1, type := 0, pos := "ref.go:326", after := #[{ on := 9, ground := Ground.guard }], guard := some (9, false) }) (v := ?_) rfl (by kernel_rfl) (by kernel_rfl) (by kernel_rfl) (fun _ _ _ h => h) (Or.inl ⟨by rfl, ?_⟩) (by trivial) ?_
                  rotate_left
                  (focus (intro w9 hSw; obtain ⟨s9, T9⟩ := hSw; obtain ⟨lt, c0, c1, c2, c3⟩ := s9.cells; obtain ⟨fT0, fT1⟩ := T9.both; go_simp <;> with_reducible rfl))
                  try simp only [Act.put, List.setIfInBounds_toArray, List.set_cons_zero, List.set_cons_succ]
                  refine wpAnyH_take (i := 11) (oi := { dst := some 44, op := Op.load 3 (Operand.tmp 43), type := 3, pos := "ref.go:326", after := #[{ on := 10, ground := Ground.data }, { on := 9, ground := Ground.guard }], guard := some (9, false) }) (v := ?_) rfl (by kernel_rfl) (by kernel_rfl) (by kernel_rfl) (fun _ _ _ h => h) (Or.inl ⟨by rfl, ?_⟩) (by trivial) ?_
                  rotate_left
                  (focus (intro w9 hSw; obtain ⟨s9, T9⟩ := hSw; obtain ⟨lt, c0, c1, c2, c3⟩ := s9.cells; obtain ⟨fT0, fT1⟩ := T9.both; go_simp <;> with_reducible rfl))
                  try simp only [Act.put, List.setIfInBounds_toArray, List.set_cons_zero, List.set_cons_succ]
                  refine wpAnyH_take (i := 12) (oi := { dst := some 45, op := Op.binOp BinOp.gtr 3 (Operand.tmp 44) (Operand.const (Value.int IntKind.i64 64800)) 3, type := 4, pos := "ref.go:326", after := #[{ on := 11, ground := Ground.data }, { on := 9, ground := Ground.guard }], guard := some (9, false) }) (v := ?_) rfl (by kernel_rfl) (by kernel_rfl) (by kernel_rfl) (fun _ _ _ h => h) (Or.inl ⟨by rfl, ?_⟩) (by trivial) ?_
                  rotate_left
                  (focus (intro w9 hSw; obtain ⟨s9, T9⟩ := hSw; obtain ⟨lt, c0, c1, c2, c3⟩ := s9.cells; obtain ⟨fT0, fT1⟩ := T9.both; go_simp <;> with_reducible rfl))
                  try simp only [Act.put, List.setIfInBounds_toArray, List.set_cons_zero, List.set_cons_succ]
                  refine wpAnyH_take (i := 13) (oi := { dst := some 46, op := Op.pick (Operand.tmp 42) (Operand.const (Value.bool true)) (Operand.tmp 45), type := 4, pos := "ref.go:326", after := #[{ on := 9, ground := Ground.data }, { on := 12, ground := Ground.data }], guard := none }) (v := ?_) rfl (by kernel_rfl) (by kernel_rfl) (by kernel_rfl) (fun _ _ _ h => h) (Or.inl ⟨by rfl, ?_⟩) (by trivial) ?_
                  rotate_left
                  (focus (intro w9 hSw; obtain ⟨s9, T9⟩ := hSw; obtain ⟨lt, c0, c1, c2, c3⟩ := s9.cells; obtain ⟨fT0, fT1⟩ := T9.both; go_simp <;> with_reducible rfl))
                  try simp only [Act.put, List.setIfInBounds_toArray, List.set_cons_zero, List.set_cons_succ]
                  refine wpAnyH_take (i := 14) (oi := { dst := some 47, op := Op.move (Operand.tmp 46), type := 4, pos := "ref.go:326", after := #[{ on := 13, ground := Ground.data }, { on := 9, ground := Ground.chain }], guard := none }) (v := ?_) rfl (by kernel_rfl) (by kernel_rfl) (by kernel_rfl) (fun _ _ _ h => h) (Or.inl ⟨by rfl, ?_⟩) (by trivial) ?_
                  rotate_left
                  (focus (intro w9 hSw; obtain ⟨s9, T9⟩ := hSw; obtain ⟨lt, c0, c1, c2, c3⟩ := s9.cells; obtain ⟨fT0, fT1⟩ := T9.both; go_simp <;> with_reducible rfl))
                  try simp only [Act.put, List.setIfInBounds_toArray, List.set_cons_zero, List.set_cons_succ]
                  refine wpAnyH_take (i := 15) (oi := { dst := some 48, op := Op.move (Operand.tmp 3), type := 3, pos := "ref.go:326", after := #[{ on := 14, ground := Ground.guard }], guard := some (14, false) }) (v := undef) rfl (by kernel_rfl) (by kernel_rfl) (by kernel_rfl) (fun _ _ _ h => h) (Or.inr ⟨by rfl, rfl⟩) (by trivial) ?_
                  try simp only [Act.put, List.setIfInBounds_toArray, List.set_cons_zero, List.set_cons_succ]
                  refine wpAnyH_take (i := 16) (oi := { dst := some 49, op := Op.binOp BinOp.gtr 3 (Operand.tmp 48) (Operand.const (Value.int IntKind.i64 0)) 3, type := 4, pos := "ref.go:326", after := #[{ on := 15, ground := Ground.data }, { on := 14, ground := Ground.guard }], guard := some (14, false) }) (v := undef) rfl (by kernel_rfl) (by kernel_rfl) (by kernel_rfl) (fun _ _ _ h => h) (Or.inr ⟨by rfl, rfl⟩) (by trivial) ?_
                  try simp only [Act.put, List.setIfInBounds_toArray, List.set_cons_zero, List.set_cons_succ]
                  refine wpAnyH_take (i := 17) (oi := { dst := some 50, op := Op.move (Operand.tmp 49), type := 4, pos := "ref.go:326", after := #[{ on := 16, ground := Ground.data }, { on := 14, ground := Ground.chain }, { on := 14, ground := Ground.guard }], guard := some (14, false) }) (v := undef) rfl (by kernel_rfl) (by kernel_rfl) (by kernel_rfl) (fun _ _ _ h => h) (Or.inr ⟨by rfl, rfl⟩) (by trivial) ?_
                  try simp only [Act.put, List.setIfInBounds_toArray, List.set_cons_zero, List.set_cons_succ]
                  refine wpAnyH_take (i := 18) (oi := { dst := some 51, op := Op.fieldAddr 29 (Operand.tmp 4) 0, type := 0, pos := "ref.go:326", after := #[{ on := 17, ground := Ground.guard }], guard := some (17, true) }) (v := undef) rfl (by kernel_rfl) (by kernel_rfl) (by kernel_rfl) (fun _ _ _ h => h) (Or.inr ⟨by rfl, rfl⟩) (by trivial) ?_
                  try simp only [Act.put, List.setIfInBounds_toArray, List.set_cons_zero, List.set_cons_succ]
                  refine wpAnyH_take (i := 19) (oi := { dst := some 52, op := Op.load 3 (Operand.tmp 51), type := 3, pos := "ref.go:326", after := #[{ on := 18, ground := Ground.data }, { on := 17, ground := Ground.guard }], guard := some (17, true) }) (v := undef) rfl (by kernel_rfl) (by kernel_rfl) (by kernel_rfl) (fun _ _ _ h => h) (Or.inr ⟨by rfl, rfl⟩) (by trivial) ?_
                  try simp only [Act.put, List.setIfInBounds_toArray, List.set_cons_zero, List.set_cons_succ]
                  refine wpAnyH_take (i := 20) (oi := { dst := some 53, op := Op.fieldAddr 25 (Operand.tmp 1) 1, type := 0, pos := "ref.go:326", after := #[{ on := 17, ground := Ground.guard }], guard := some (17, true) }) (v := undef) rfl (by kernel_rfl) (by kernel_rfl) (by kernel_rfl) (fun _ _ _ h => h) (Or.inr ⟨by rfl, rfl⟩) (by trivial) ?_
                  try simp only [Act.put, List.setIfInBounds_toArray, List.set_cons_zero, List.set_cons_succ]
                  refine wpAnyH_take (i := 21) (oi := { dst := some 54, op := Op.load 22 (Operand.tmp 53), type := 22, pos := "ref.go:326", after := #[{ on := 20, ground := Ground.data }, { on := 17, ground := Ground.guard }], guard := some (17, true) }) (v := undef) rfl (by kernel_rfl) (by kernel_rfl) (by kernel_rfl) (fun _ _ _ h => h) (Or.inr ⟨by rfl, rfl⟩) (by trivial) ?_
                  try simp only [Act.put, List.setIfInBounds_toArray, List.set_cons_zero, List.set_cons_succ]
                  refine wpAnyH_take (i := 22) (oi := { dst := some 55, op := Op.move (Operand.tmp 3), type := 3, pos := "ref.go:326", after := #[{ on := 17, ground := Ground.guard }], guard := some (17, true) }) (v := undef) rfl (by kernel_rfl) (by kernel_rfl) (by kernel_rfl) (fun _ _ _ h => h) (Or.inr ⟨by rfl, rfl⟩) (by trivial) ?_
                  try simp only [Act.put, List.setIfInBounds_toArray, List.set_cons_zero, List.set_cons_succ]
                  refine wpAnyH_take (i := 23) (oi := { dst := some 56, op := Op.binOp BinOp.sub 3 (Operand.tmp 55) (Operand.const (Value.int IntKind.i64 1)) 3, type := 3, pos := "ref.go:326", after := #[{ on := 22, ground := Ground.data }, { on := 17, ground := Ground.guard }], guard := some (17, true) }) (v := undef) rfl (by kernel_rfl) (by kernel_rfl) (by kernel_rfl) (fun _ _ _ h => h) (Or.inr ⟨by rfl, rfl⟩) (by trivial) ?_
                  try simp only [Act.put, List.setIfInBounds_toArray, List.set_cons_zero, List.set_cons_succ]
                  refine wpAnyH_take (i := 24) (oi := { dst := some 57, op := Op.indexAddr 22 (Operand.tmp 54) (Operand.tmp 56), type := 0, pos := "ref.go:326", after := #[{ on := 21, ground := Ground.data }, { on := 23, ground := Ground.data }, { on := 17, ground := Ground.guard }], guard := some (17, true) }) (v := undef) rfl (by kernel_rfl) (by kernel_rfl) (by kernel_rfl) (fun _ _ _ h => h) (Or.inr ⟨by rfl, rfl⟩) (by trivial) ?_
                  try simp only [Act.put, List.setIfInBounds_toArray, List.set_cons_zero, List.set_cons_succ]
                  refine wpAnyH_take (i := 25) (oi := { dst := some 58, op := Op.fieldAddr 29 (Operand.tmp 57) 0, type := 0, pos := "ref.go:326", after := #[{ on := 24, ground := Ground.data }, { on := 17, ground := Ground.guard }], guard := some (17, true) }) (v := undef) rfl (by kernel_rfl) (by kernel_rfl) (by kernel_rfl) (fun _ _ _ h => h) (Or.inr ⟨by rfl, rfl⟩) (by trivial) ?_
                  try simp only [Act.put, List.setIfInBounds_toArray, List.set_cons_zero, List.set_cons_succ]
                  refine wpAnyH_take (i := 26) (oi := { dst := some 59, op := Op.load 3 (Operand.tmp 58), type := 3, pos := "ref.go:326", after := #[{ on := 25, ground := Ground.data }, { on := 17, ground := Ground.guard }], guard := some (17, true) }) (v := undef) rfl (by kernel_rfl) (by kernel_rfl) (by kernel_rfl) (fun _ _ _ h => h) (Or.inr ⟨by rfl, rfl⟩) (by trivial) ?_
                  try simp only [Act.put, List.setIfInBounds_toArray, List.set_cons_zero, List.set_cons_succ]
                  refine wpAnyH_take (i := 27) (oi := { dst := some 60, op := Op.binOp BinOp.sub 3 (Operand.tmp 52) (Operand.tmp 59) 3, type := 3, pos := "ref.go:326", after := #[{ on := 19, ground := Ground.data }, { on := 26, ground := Ground.data }, { on := 17, ground := Ground.guard }], guard := some (17, true) }) (v := undef) rfl (by kernel_rfl) (by kernel_rfl) (by kernel_rfl) (fun _ _ _ h => h) (Or.inr ⟨by rfl, rfl⟩) (by trivial) ?_
                  try simp only [Act.put, List.setIfInBounds_toArray, List.set_cons_zero, List.set_cons_succ]
                  refine wpAnyH_take (i := 28) (oi := { dst := some 61, op := Op.binOp BinOp.lss 3 (Operand.tmp 60) (Operand.const (Value.int IntKind.i64 200000)) 3, type := 4, pos := "ref.go:326", after := #[{ on := 27, ground := Ground.data }, { on := 17, ground := Ground.guard }], guard := some (17, true) }) (v := undef) rfl (by kernel_rfl) (by kernel_rfl) (by kernel_rfl) (fun _ _ _ h => h) (Or.inr ⟨by rfl, rfl⟩) (by trivial) ?_
                  try simp only [Act.put, List.setIfInBounds_toArray, List.set_cons_zero, List.set_cons_succ]
                  refine wpAnyH_take (i := 29) (oi := { dst := some 62, op := Op.pick (Operand.tmp 50) (Operand.tmp 61) (Operand.const (Value.bool false)), type := 4, pos := "ref.go:326", after := #[{ on := 17, ground := Ground.data }, { on := 28, ground := Ground.data }, { on := 14, ground := Ground.guard }], guard := some (14, false) }) (v := undef) rfl (by kernel_rfl) (by kernel_rfl) (by kernel_rfl) (fun _ _ _ h => h) (Or.inr ⟨by rfl, rfl⟩) (by trivial) ?_
                  try simp only [Act.put, List.setIfInBounds_toArray, List.set_cons_zero, List.set_cons_succ]
                  refine wpAnyH_take (i := 30) (oi := { dst := some 63, op := Op.pick (Operand.tmp 47) (Operand.const (Value.bool true)) (Operand.tmp 62), type := 4, pos := "ref.go:326", after := #[{ on := 14, ground := Ground.data }, { on := 29, ground := Ground.data }], guard := none }) (v := ?_) rfl (by kernel_rfl) (by kernel_rfl) (by kernel_rfl) (fun _ _ _ h => h) (Or.inl ⟨by rfl, ?_⟩) (by trivial) ?_
                  rotate_left
                  (focus (intro w9 hSw; obtain ⟨s9, T9⟩ := hSw; obtain ⟨lt, c0, c1, c2, c3⟩ := s9.cells; obtain ⟨fT0, fT1⟩ := T9.both; go_simp <;> with_reducible rfl))
                  try simp only [Act.put, List.setIfInBounds_toArray, List.set_cons_zero, List.set_cons_succ]
                  refine wpAnyH_done (by kernel_rfl) ?_ _
                  go_wp2_with fail
                  go_ret
                  exact ⟨by rw [mayZB_no fun h => absurd (h.sh.up.ok j hlt hlt).2.2 (by omega)]; rfl, s.b⟩
                · have q2bt := decide_eq_false q2b
                  rcases Nat.eq_zero_or_pos j with q3 | q3
                  · subst q3
                    refine wp_region_held_drew (S := fun w9 => St w w9 w.heap.size bs (some ad) c A' c' fr L Y ∧ Two w9 pT (L[0].at_) (L[0].off)) (by kernel_rfl) ⟨s, T⟩ (fun _ => ?_)
                    refine wpAnyH_take (i := 0) (oi := { dst := some 33, op := Op.fieldAddr 29 (Operand.tmp 4) 0, type := 0, pos := "ref.go:326", after := #[], guard := none }) (v := ?_) rfl (by kernel_rfl) (by kernel_rfl) (by kernel_rfl) (fun _ _ _ h => h) (Or.inl ⟨by rfl, ?_⟩) (by trivial) ?_
                    rotate_left
                    (focus (intro w9 hSw; obtain ⟨s9, T9⟩ := hSw; obtain ⟨lt, c0, c1, c2, c3⟩ := s9.cells; obtain ⟨fT0, fT1⟩ := T9.both; go_simp <;> with_reducible rfl))
                    try simp only [Act.put, List.setIfInBounds_toArray, List.set_cons_zero, List.set_cons_succ]
                    refine wpAnyH_take (i := 1) (oi := { dst := some 34, op := Op.load 3 (Operand.tmp 33), type := 3, pos := "ref.go:326", after := #[{ on := 0, ground := Ground.data }], guard := none }) (v := ?_) rfl (by kernel_rfl) (by kernel_rfl) (by kernel_rfl) (fun _ _ _ h => h) (Or.inl ⟨by rfl, ?_⟩) (by trivial) ?_
                    rotate_left
                    (focus (intro w9 hSw; obtain ⟨s9, T9⟩ := hSw; obtain ⟨lt, c0, c1, c2, c3⟩ := s9.cells; obtain ⟨fT0, fT1⟩ := T9.both; go_simp <;> with_reducible rfl))
                    try simp only [Act.put, List.setIfInBounds_toArray, List.set_cons_zero, List.set_cons_succ]
                    refine wpAnyH_ready (rs := [2]) (by kernel_rfl) (by simp) ?_
                    refine AllReadyH.cons (o := { dst := some 35, op := Op.call { callee := Callee.value (Operand.func 33), args := #[Operand.tmp 34], argTypes := #[3] }, type := 4, pos := "ref.go:326", after := #[{ on := 1, ground := Ground.data }], guard := none }) rfl (fun K hK => ?_) AllReadyH.nil
                    go_simp
                    refine (rmay_any _ _).mono ?_
                    rintro e w3 ⟨rfl, rfl⟩
                    rw [q1t]
                    go_wp2_with fail
                    refine hK.out _ _ ⟨s, T⟩ (fun _ => ?_)
                    clear hK K
                    try simp only [Act.put, List.setIfInBounds_toArray, List.set_cons_zero, List.set_cons_succ]
                    refine wpAnyH_take (i := 3) (oi := { dst := some 36, op := Op.unOp UnOp.not 4 (Operand.tmp 35), type := 4, pos := "ref.go:326", after := #[{ on := 2, ground := Ground.data }], guard := none }) (v := ?_) rfl (by kernel_rfl) (by kernel_rfl) (by kernel_rfl) (fun _ _ _ h => h) (Or.inl ⟨by rfl, ?_⟩) (by trivial) ?_
                    rotate_left
                    (focus (intro w9 hSw; obtain ⟨s9, T9⟩ := hSw; obtain ⟨lt, c0, c1, c2, c3⟩ := s9.cells; obtain ⟨fT0, fT1⟩ := T9.both; go_simp <;> with_reducible rfl))
                    try simp only [Act.put, List.setIfInBounds_toArray, List.set_cons_zero, List.set_cons_succ]
                    refine wpAnyH_take (i := 4) (oi := { dst := some 37, op := Op.move (Operand.tmp 36), type := 4, pos := "ref.go:326", after := #[{ on := 3, ground := Ground.data }, { on := 2, ground := Ground.chain }], guard := none }) (v := ?_) rfl (by kernel_rfl) (by kernel_rfl) (by kernel_rfl) (fun _ _ _ h => h) (Or.inl ⟨by rfl, ?_⟩) (by trivial) ?_
                    rotate_left
                    (focus (intro w9 hSw; obtain ⟨s9, T9⟩ := hSw; obtain ⟨lt, c0, c1, c2, c3⟩ := s9.cells; obtain ⟨fT0, fT1⟩ := T9.both; go_simp <;> with_reducible rfl))
                    try simp only [Act.put, List.setIfInBounds_toArray, List.set_cons_zero, List.set_cons_succ]
                    refine wpAnyH_take (i := 5) (oi := { dst := some 38, op := Op.fieldAddr 29 (Operand.tmp 4) 1, type := 0, pos := "ref.go:326", after := #[{ on := 4, ground := Ground.guard }], guard := some (4, false) }) (v := ?_) rfl (by kernel_rfl) (by kernel_rfl) (by kernel_rfl) (fun _ _ _ h => h) (Or.inl ⟨by rfl, ?_⟩) (by trivial) ?_
                    rotate_left
                    (focus (intro w9 hSw; obtain ⟨s9, T9⟩ := hSw; obtain ⟨lt, c0, c1, c2, c3⟩ := s9.cells; obtain ⟨fT0, fT1⟩ := T9.both; go_simp <;> with_reducible rfl))
                    try simp only [Act.put, List.setIfInBounds_toArray, List.set_cons_zero, List.set_cons_succ]
                    refine wpAnyH_take (i := 6) (oi := { dst := some 39, op := Op.load 3 (Operand.tmp 38), type := 3, pos := "ref.go:326", after := #[{ on := 5, ground := Ground.data }, { on := 4, ground := Ground.guard }], guard := some (4, false) }) (v := ?_) rfl (by kernel_rfl) (by kernel_rfl) (by kernel_rfl) (fun _ _ _ h => h) (Or.inl ⟨by rfl, ?_⟩) (by trivial) ?_
                    rotate_left
                    (focus (intro w9 hSw; obtain ⟨s9, T9⟩ := hSw; obtain ⟨lt, c0, c1, c2, c3⟩ := s9.cells; obtain ⟨fT0, fT1⟩ := T9.both; go_simp <;> with_reducible rfl))
                    try simp only [Act.put, List.setIfInBounds_toArray, List.set_cons_zero, List.set_cons_succ]
                    refine wpAnyH_take (i := 7) (oi := { dst := some 40, op := Op.binOp BinOp.lss 3 (Operand.tmp 39) (Operand.const (Value.int IntKind.i64 (-64800))) 3, type := 4, pos := "ref.go:326", after := #[{ on := 6, ground := Ground.data }, { on := 4, ground := Ground.guard }], guard := some (4, false) }) (v := ?_) rfl (by kernel_rfl) (by kernel_rfl) (by kernel_rfl) (fun _ _ _ h => h) (Or.inl ⟨by rfl, ?_⟩) (by trivial) ?_
                    rotate_left
                    (focus (intro w9 hSw; obtain ⟨s9, T9⟩ := hSw; obtain ⟨lt, c0, c1, c2, c3⟩ := s9.cells; obtain ⟨fT0, fT1⟩ := T9.both; go_simp <;> with_reducible rfl))
                    try simp only [Act.put, List.setIfInBounds_toArray, List.set_cons_zero, List.set_cons_succ]
                    refine wpAnyH_take (i := 8) (oi := { dst := some 41, op := Op.pick (Operand.tmp 37) (Operand.const (Value.bool true)) (Operand.tmp 40), type := 4, pos := "ref.go:326", after := #[{ on := 4, ground := Ground.data }, { on := 7, ground := Ground.data }], guard := none }) (v := ?_) rfl (by kernel_rfl) (by kernel_rfl) (by kernel_rfl) (fun _ _ _ h => h) (Or.inl ⟨by rfl, ?_⟩) (by trivial) ?_
                    rotate_left
                    (focus (intro w9 hSw; obtain ⟨s9, T9⟩ := hSw; obtain ⟨lt, c0, c1, c2, c3⟩ := s9.cells; obtain ⟨fT0, fT1⟩ := T9.both; go_simp <;> with_reducible rfl))
                    try simp only [Act.put, List.setIfInBounds_toArray, List.set_cons_zero, List.set_cons_succ]
                    refine wpAnyH_take (i := 9) (oi := { dst := some 42, op := Op.move (Operand.tmp 41), type := 4, pos := "ref.go:326", after := #[{ on := 8, ground := Ground.data }, { on := 4, ground := Ground.chain }], guard := none }) (v := ?_) rfl (by kernel_rfl) (by kernel_rfl) (by kernel_rfl) (fun _ _ _ h => h) (Or.inl ⟨by rfl, ?_⟩) (by trivial) ?_
                    rotate_left
                    (focus (intro w9 hSw; obtain ⟨s9, T9⟩ := hSw; obtain ⟨lt, c0, c1, c2, c3⟩ := s9.cells; obtain ⟨fT0, fT1⟩ := T9.both; go_simp <;> with_reducible rfl))
                    try simp only [Act.put, List.setIfInBounds_toArray, List.set_cons_zero, List.set_cons_succ]
                    refine wpAnyH_take (i := 10) (oi := { dst := some 43, op := Op.fieldAddr 29 (Operand.tmp 4) 1, type := 0, pos := "ref.go:326", after := #[{ on := 9, ground := Ground.guard }], guard := some (9, false) }) (v := ?_) rfl (by kernel_rfl) (by kernel_rfl) (by kernel_rfl) (fun _ _ _ h => h) (Or.inl ⟨by rfl, ?_⟩) (by trivial) ?_
                    rotate_left
                    (focus (intro w9 hSw; obtain ⟨s9, T9⟩ := hSw; obtain ⟨lt, c0, c1, c2, c3⟩ := s9.cells; obtain ⟨fT0, fT1⟩ := T9.both; go_simp <;> with_reducible rfl))
                    try simp only [Act.put, List.setIfInBounds_toArray, List.set_cons_zero, List.set_cons_succ]
                    refine wpAnyH_take (i := 11) (oi := { dst := some 44, op := Op.load 3 (Operand.tmp 43), type := 3, pos := "ref.go:326", after := #[{ on := 10, ground := Ground.data }, { on := 9, ground := Ground.guard }], guard := some (9, false) }) (v := ?_) rfl (by kernel_rfl) (by kernel_rfl) (by kernel_rfl) (fun _ _ _ h => h) (Or.inl ⟨by rfl, ?_⟩) (by trivial) ?_
                    rotate_left
                    (focus (intro w9 hSw; obtain ⟨s9, T9⟩ := hSw; obtain ⟨lt, c0, c1, c2, c3⟩ := s9.cells; obtain ⟨fT0, fT1⟩ := T9.both; go_simp <;> with_reducible rfl))
                    try simp only [Act.put, List.setIfInBounds_toArray, List.set_cons_zero, List.set_cons_succ]
                    refine wpAnyH_take (i := 12) (oi := { dst := some 45, op := Op.binOp BinOp.gtr 3 (Operand.tmp 44) (Operand.const (Value.int IntKind.i64 64800)) 3, type := 4, pos := "ref.go:326", after := #[{ on := 11, ground := Ground.data }, { on := 9, ground := Ground.guard }], guard := some (9, false) }) (v := ?_) rfl (by kernel_rfl) (by kernel_rfl) (by kernel_rfl) (fun _ _ _ h => h) (Or.inl ⟨by rfl, ?_⟩) (by trivial) ?_
                    rotate_left
                    (focus (intro w9 hSw; obtain ⟨s9, T9⟩ := hSw; obtain ⟨lt, c0, c1, c2, c3⟩ := s9.cells; obtain ⟨fT0, fT1⟩ := T9.both; go_simp <;> with_reducible rfl))
                    try simp only [Act.put, List.setIfInBounds_toArray, List.set_cons_zero, List.set_cons_succ]
                    refine wpAnyH_take (i := 13) (oi := { dst := some 46, op := Op.pick (Operand.tmp 42) (Operand.const (Value.bool true)) (Operand.tmp 45), type := 4, pos := "ref.go:326", after := #[{ on := 9, ground := Ground.data }, { on := 12, ground := Ground.data }], guard := none }) (v := ?_) rfl (by kernel_rfl) (by kernel_rfl) (by kernel_rfl) (fun _ _ _ h => h) (Or.inl ⟨by rfl, ?_⟩) (by trivial) ?_
                    rotate_left
                    (focus (intro w9 hSw; obtain ⟨s9, T9⟩ := hSw; obtain ⟨lt, c0, c1, c2, c3⟩ := s9.cells; obtain ⟨fT0, fT1⟩ := T9.both; go_simp <;> with_reducible rfl))
                    try simp only [Act.put, List.setIfInBounds_toArray, List.set_cons_zero, List.set_cons_succ]
                    refine wpAnyH_take (i := 14) (oi := { dst := some 47, op := Op.move (Operand.tmp 46), type := 4, pos := "ref.go:326", after := #[{ on := 13, ground := Ground.data }, { on := 9, ground := Ground.chain }], guard := none }) (v := ?_) rfl (by kernel_rfl) (by kernel_rfl) (by kernel_rfl) (fun _ _ _ h => h) (Or.inl ⟨by rfl, ?_⟩) (by trivial) ?_
                    rotate_left
                    (focus (intro w9 hSw; obtain ⟨s9, T9⟩ := hSw; obtain ⟨lt, c0, c1, c2, c3⟩ := s9.cells; obtain ⟨fT0, fT1⟩ := T9.both; go_simp <;> with_reducible rfl))
                    try simp only [Act.put, List.setIfInBounds_toArray, List.set_cons_zero, List.set_cons_succ]
                    refine wpAnyH_take (i := 15) (oi := { dst := some 48, op := Op.move (Operand.tmp 3), type := 3, pos := "ref.go:326", after := #[{ on := 14, ground := Ground.guard }], guard := some (14, false) }) (v := ?_) rfl (by kernel_rfl) (by kernel_rfl) (by kernel_rfl) (fun _ _ _ h => h) (Or.inl ⟨by rfl, ?_⟩) (by trivial) ?_
                    rotate_left
                    (focus (intro w9 hSw; obtain ⟨s9, T9⟩ := hSw; obtain ⟨lt, c0, c1, c2, c3⟩ := s9.cells; obtain ⟨fT0, fT1⟩ := T9.both; go_simp <;> with_reducible rfl))
                    try simp only [Act.put, List.setIfInBounds_toArray, List.set_cons_zero, List.set_cons_succ]
                    refine wpAnyH_take (i := 16) (oi := { dst := some 49, op := Op.binOp BinOp.gtr 3 (Operand.tmp 48) (Operand.const (Value.int IntKind.i64 0)) 3, type := 4, pos := "ref.go:326", after := #[{ on := 15, ground := Ground.data }, { on := 14, ground := Ground.guard }], guard := some (14, false) }) (v := ?_) rfl (by kernel_rfl) (by kernel_rfl) (by kernel_rfl) (fun _ _ _ h => h) (Or.inl ⟨by rfl, ?_⟩) (by trivial) ?_
                    rotate_left
                    (focus (intro w9 hSw; obtain ⟨s9, T9⟩ := hSw; obtain ⟨lt, c0, c1, c2, c3⟩ := s9.cells; obtain ⟨fT0, fT1⟩ := T9.both; go_simp <;> with_reducible rfl))
                    try simp only [Act.put, List.setIfInBounds_toArray, List.set_cons_zero, List.set_cons_succ]
                    refine wpAnyH_take (i := 17) (oi := { dst := some 50, op := Op.move (Operand.tmp 49), type := 4, pos := "ref.go:326", after := #[{ on := 16, ground := Ground.data }, { on := 14, ground := Ground.chain }, { on := 14, ground := Ground.guard }], guard := some (14, false) }) (v := ?_) rfl (by kernel_rfl) (by kernel_rfl) (by kernel_rfl) (fun _ _ _ h => h) (Or.inl ⟨by rfl, ?_⟩) (by trivial) ?_
                    rotate_left
                    (focus (intro w9 hSw; obtain ⟨s9, T9⟩ := hSw; obtain ⟨lt, c0, c1, c2, c3⟩ := s9.cells; obtain ⟨fT0, fT1⟩ := T9.both; go_simp <;> with_reducible rfl))
                    try simp only [Act.put, List.setIfInBounds_toArray, List.set_cons_zero, List.set_cons_succ]
                    refine wpAnyH_take (i := 18) (oi := { dst := some 51, op := Op.fieldAddr 29 (Operand.tmp 4) 0, type := 0, pos := "ref.go:326", after := #[{ on := 17, ground := Ground.guard }], guard := some (17, true) }) (v := undef) rfl (by kernel_rfl) (by kernel_rfl) (by kernel_rfl) (fun _ _ _ h => h) (Or.inr ⟨by rfl, rfl⟩) (by trivial) ?_
                    try simp only [Act.put, List.setIfInBounds_toArray, List.set_cons_zero, List.set_cons_succ]
                    refine wpAnyH_take (i := 19) (oi := { dst := some 52, op := Op.load 3 (Operand.tmp 51), type := 3, pos := "ref.go:326", after := #[{ on := 18, ground := Ground.data }, { on := 17, ground := Ground.guard }], guard := some (17, true) }) (v := undef) rfl (by kernel_rfl) (by kernel_rfl) (by kernel_rfl) (fun _ _ _ h => h) (Or.inr ⟨by rfl, rfl⟩) (by trivial) ?_
                    try simp only [Act.put, List.setIfInBounds_toArray, List.set_cons_zero, List.set_cons_succ]
                    refine wpAnyH_take (i := 20) (oi := { dst := some 53, op := Op.fieldAddr 25 (Operand.tmp 1) 1, type := 0, pos := "ref.go:326", after := #[{ on := 17, ground := Ground.guard }], guard := some (17, true) }) (v := undef) rfl (by kernel_rfl) (by kernel_rfl) (by kernel_rfl) (fun _ _ _ h => h) (Or.inr ⟨by rfl, rfl⟩) (by trivial) ?_
                    try simp only [Act.put, List.setIfInBounds_toArray, List.set_cons_zero, List.set_cons_succ]
                    refine wpAnyH_take (i := 21) (oi := { dst := some 54, op := Op.load 22 (Operand.tmp 53), type := 22, pos := "ref.go:326", after := #[{ on := 20, ground := Ground.data }, { on := 17, ground := Ground.guard }], guard := some (17, true) }) (v := undef) rfl (by kernel_rfl) (by kernel_rfl) (by kernel_rfl) (fun _ _ _ h => h) (Or.inr ⟨by rfl, rfl⟩) (by trivial) ?_
                    try simp only [Act.put, List.setIfInBounds_toArray, List.set_cons_zero, List.set_cons_succ]
                    refine wpAnyH_take (i := 22) (oi := { dst := some 55, op := Op.move (Operand.tmp 3), type := 3, pos := "ref.go:326", after := #[{ on := 17, ground := Ground.guard }], guard := some (17, true) }) (v := undef) rfl (by kernel_rfl) (by kernel_rfl) (by kernel_rfl) (fun _ _ _ h => h) (Or.inr ⟨by rfl, rfl⟩) (by trivial) ?_
                    try simp only [Act.put, List.setIfInBounds_toArray, List.set_cons_zero, List.set_cons_succ]
                    refine wpAnyH_take (i := 23) (oi := { dst := some 56, op := Op.binOp BinOp.sub 3 (Operand.tmp 55) (Operand.const (Value.int IntKind.i64 1)) 3, type := 3, pos := "ref.go:326", after := #[{ on := 22, ground := Ground.data }, { on := 17, ground := Ground.guard }], guard := some (17, true) }) (v := undef) rfl (by kernel_rfl) (by kernel_rfl) (by kernel_rfl) (fun _ _ _ h => h) (Or.inr ⟨by rfl, rfl⟩) (by trivial) ?_
                    try simp only [Act.put, List.setIfInBounds_toArray, List.set_cons_zero, List.set_cons_succ]
                    refine wpAnyH_take (i := 24) (oi := { dst := some 57, op := Op.indexAddr 22 (Operand.tmp 54) (Operand.tmp 56), type := 0, pos := "ref.go:326", after := #[{ on := 21, ground := Ground.data }, { on := 23, ground := Ground.data }, { on := 17, ground := Ground.guard }], guard := some (17, true) }) (v := undef) rfl (by kernel_rfl) (by kernel_rfl) (by kernel_rfl) (fun _ _ _ h => h) (Or.inr ⟨by rfl, rfl⟩) (by trivial) ?_
                    try simp only [Act.put, List.setIfInBounds_toArray, List.set_cons_zero, List.set_cons_succ]
                    refine wpAnyH_take (i := 25) (oi := { dst := some 58, op := Op.fieldAddr 29 (Operand.tmp 57) 0, type := 0, pos := "ref.go:326", after := #[{ on := 24, ground := Ground.data }, { on := 17, ground := Ground.guard }], guard := some (17, true) }) (v := undef) rfl (by kernel_rfl) (by kernel_rfl) (by kernel_rfl) (fun _ _ _ h => h) (Or.inr ⟨by rfl, rfl⟩) (by trivial) ?_
                    try simp only [Act.put, List.setIfInBounds_toArray, List.set_cons_zero, List.set_cons_succ]
                    refine wpAnyH_take (i := 26) (oi := { dst := some 59, op := Op.load 3 (Operand.tmp 58), type := 3, pos := "ref.go:326", after := #[{ on := 25, ground := Ground.data }, { on := 17, ground := Ground.guard }], guard := some (17, true) }) (v := undef) rfl (by kernel_rfl) (by kernel_rfl) (by kernel_rfl) (fun _ _ _ h => h) (Or.inr ⟨by rfl, rfl⟩) (by trivial) ?_
                    try simp only [Act.put, List.setIfInBounds_toArray, List.set_cons_zero, List.set_cons_succ]
                    refine wpAnyH_take (i := 27) (oi := { dst := some 60, op := Op.binOp BinOp.sub 3 (Operand.tmp 52) (Operand.tmp 59) 3, type := 3, pos := "ref.go:326", after := #[{ on := 19, ground := Ground.data }, { on := 26, ground := Ground.data }, { on := 17, ground := Ground.guard }], guard := some (17, true) }) (v := undef) rfl (by kernel_rfl) (by kernel_rfl) (by kernel_rfl) (fun _ _ _ h => h) (Or.inr ⟨by rfl, rfl⟩) (by trivial) ?_
                    try simp only [Act.put, List.setIfInBounds_toArray, List.set_cons_zero, List.set_cons_succ]
                    refine wpAnyH_take (i := 28) (oi := { dst := some 61, op := Op.binOp BinOp.lss 3 (Operand.tmp 60) (Operand.const (Value.int IntKind.i64 200000)) 3, type := 4, pos := "ref.go:326", after := #[{ on := 27, ground := Ground.data }, { on := 17, ground := Ground.guard }], guard := some (17, true) }) (v := undef) rfl (by kernel_rfl) (by kernel_rfl) (by kernel_rfl) (fun _ _ _ h => h) (Or.inr ⟨by rfl, rfl⟩) (by trivial) ?_
                    try simp only [Act.put, List.setIfInBounds_toArray, List.set_cons_zero, List.set_cons_succ]
                    refine wpAnyH_take (i := 29) (oi := { dst := some 62, op := Op.pick (Operand.tmp 50) (Operand.tmp 61) (Operand.const (Value.bool false)), type := 4, pos := "ref.go:326", after := #[{ on := 17, ground := Ground.data }, { on := 28, ground := Ground.data }, { on := 14, ground := Ground.guard }], guard := some (14, false) }) (v := ?_) rfl (by kernel_rfl) (by kernel_rfl) (by kernel_rfl) (fun _ _ _ h => h) (Or.inl ⟨by rfl, ?_⟩) (by trivial) ?_
                    rotate_left
                    (focus (intro w9 hSw; obtain ⟨s9, T9⟩ := hSw; obtain ⟨lt, c0, c1, c2, c3⟩ := s9.cells; obtain ⟨fT0, fT1⟩ := T9.both; go_simp <;> with_reducible rfl))
                    try simp only [Act.put, List.setIfInBounds_toArray, List.set_cons_zero, List.set_cons_succ]
                    refine wpAnyH_take (i := 30) (oi := { dst := some 63, op := Op.pick (Operand.tmp 47) (Operand.const (Value.bool true)) (Operand.tmp 62), type := 4, pos := "ref.go:326", after := #[{ on := 14, ground := Ground.data }, { on := 29, ground := Ground.data }], guard := none }) (v := ?_) rfl (by kernel_rfl) (by kernel_rfl) (by kernel_rfl) (fun _ _ _ h => h) (Or.inl ⟨by rfl, ?_⟩) (by trivial) ?_
                    rotate_left
                    (focus (intro w9 hSw; obtain ⟨s9, T9⟩ := hSw; obtain ⟨lt, c0, c1, c2, c3⟩ := s9.cells; obtain ⟨fT0, fT1⟩ := T9.both; go_simp <;> with_reducible rfl))
                    try simp only [Act.put, List.setIfInBounds_toArray, List.set_cons_zero, List.set_cons_succ]
                    refine wpAnyH_done (by kernel_rfl) ?_ _
                    go_wp2_with fail
                    go_roundw
                    case rel => exact ⟨1, by omega, by simp, (mayUp_first rfl hlt).mpr ⟨q1, by omega, by omega⟩, s⟩
                    case measure => simp [intOf]; omega
                  · have k3 : (0 : Int) < (j : Int) := by omega
                    have hk : j - 1 < L.length := by omega
                    have z3 : ((j : Int) - 1).toNat = j - 1 := by omega
                    have z6 : (1 : Int) ≤ (j : Int) := by omega
                    have z4 : (0 : Int) ≤ (j : Int) - 1 := by omega
                    have z5 : (j : Int) - 1 < (L.length : Int) := by omega
                    obtain ⟨m1, m2⟩ := (hU.ok (j - 1) (by omega) (by omega)).1
                    obtain ⟨m3, m4⟩ := q1
                    have zw : IntKind.i64.wrap ((j : Int) - 1) = (j : Int) - 1 := wi64 (by omega) (by omega)
                    have zs : IntKind.i64.wrap (L[j].at_ - L[j - 1].at_) = L[j].at_ - L[j - 1].at_ := wi64 (by omega) (by omega)
                    by_cases q4 : L[j].at_ - L[j - 1].at_ < 200000
                    · have q4t := decide_eq_true q4
                      refine wp_region_held_drew (S := fun w9 => St w w9 w.heap.size bs (some ad) c A' c' fr L Y ∧ Two w9 pT (L[j].at_) (L[j].off)) (by kernel_rfl) ⟨s, T⟩ (fun _ => ?_)
                      refine wpAnyH_take (i := 0) (oi := { dst := some 33, op := Op.fieldAddr 29 (Operand.tmp 4) 0, type := 0, pos := "ref.go:326", after := #[], guard := none }) (v := ?_) rfl (by kernel_rfl) (by kernel_rfl) (by kernel_rfl) (fun _ _ _ h => h) (Or.inl ⟨by rfl, ?_⟩) (by trivial) ?_
                      rotate_left
                      (focus (intro w9 hSw; obtain ⟨s9, T9⟩ := hSw; obtain ⟨lt, c0, c1, c2, c3⟩ := s9.cells; obtain ⟨fT0, fT1⟩ := T9.both; obtain ⟨p9, _⟩ := sh_at s9.z.s (j - 1) hk; go_simp <;> with_reducible rfl))
                      try simp only [Act.put, List.setIfInBounds_toArray, List.set_cons_zero, List.set_cons_succ]
                      refine wpAnyH_take (i := 1) (oi := { dst := some 34, op := Op.load 3 (Operand.tmp 33), type := 3, pos := "ref.go:326", after := #[{ on := 0, ground := Ground.data }], guard := none }) (v := ?_) rfl (by kernel_rfl) (by kernel_rfl) (by kernel_rfl) (fun _ _ _ h => h) (Or.inl ⟨by rfl, ?_⟩) (by trivial) ?_
                      rotate_left
                      (focus (intro w9 hSw; obtain ⟨s9, T9⟩ := hSw; obtain ⟨lt, c0, c1, c2, c3⟩ := s9.cells; obtain ⟨fT0, fT1⟩ := T9.both; obtain ⟨p9, _⟩ := sh_at s9.z.s (j - 1) hk; go_simp <;> with_reducible rfl))
                      try simp only [Act.put, List.setIfInBounds_toArray, List.set_cons_zero, List.set_cons_succ]
                      refine wpAnyH_ready (rs := [2]) (by kernel_rfl) (by simp) ?_
                      refine AllReadyH.cons (o := { dst := some 35, op := Op.call { callee := Callee.value (Operand.func 33), args := #[Operand.tmp 34], argTypes := #[3] }, type := 4, pos := "ref.go:326", after := #[{ on := 1, ground := Ground.data }], guard := none }) rfl (fun K hK => ?_) AllReadyH.nil
                      go_simp
                      refine (rmay_any _ _).mono ?_
                      rintro e w3 ⟨rfl, rfl⟩
                      rw [q1t]
                      go_wp2_with fail
                      refine hK.out _ _ ⟨s, T⟩ (fun _ => ?_)
                      clear hK K
                      try simp only [Act.put, List.setIfInBounds_toArray, List.set_cons_zero, List.set_cons_succ]
                      refine wpAnyH_take (i := 3) (oi := { dst := some 36, op := Op.unOp UnOp.not 4 (Operand.tmp 35), type := 4, pos := "ref.go:326", after := #[{ on := 2, ground := Ground.data }], guard := none }) (v := ?_) rfl (by kernel_rfl) (by kernel_rfl) (by kernel_rfl) (fun _ _ _ h => h) (Or.inl ⟨by rfl, ?_⟩) (by trivial) ?_
                      rotate_left
                      (focus (intro w9 hSw; obtain ⟨s9, T9⟩ := hSw; obtain ⟨lt, c0, c1, c2, c3⟩ := s9.cells; obtain ⟨fT0, fT1⟩ := T9.both; obtain ⟨p9, _⟩ := sh_at s9.z.s (j - 1) hk; go_simp <;> with_reducible rfl))
                      try simp only [Act.put, List.setIfInBounds_toArray, List.set_cons_zero, List.set_cons_succ]
                      refine wpAnyH_take (i := 4) (oi := { dst := some 37, op := Op.move (Operand.tmp 36), type := 4, pos := "ref.go:326", after := #[{ on := 3, ground := Ground.data }, { on := 2, ground := Ground.chain }], guard := none }) (v := ?_) rfl (by kernel_rfl) (by kernel_rfl) (by kernel_rfl) (fun _ _ _ h => h) (Or.inl ⟨by rfl, ?_⟩) (by trivial) ?_
                      rotate_left
                      (focus (intro w9 hSw; obtain ⟨s9, T9⟩ := hSw; obtain ⟨lt, c0, c1, c2, c3⟩ := s9.cells; obtain ⟨fT0, fT1⟩ := T9.both; obtain ⟨p9, _⟩ := sh_at s9.z.s (j - 1) hk; go_simp <;> with_reducible rfl))
                      try simp only [Act.put, List.setIfInBounds_toArray, List.set_cons_zero, List.set_cons_succ]
                      refine wpAnyH_take (i := 5) (oi := { dst := some 38, op := Op.fieldAddr 29 (Operand.tmp 4) 1, type := 0, pos := "ref.go:326", after := #[{ on := 4, ground := Ground.guard }], guard := some (4, false) }) (v := ?_) rfl (by kernel_rfl) (by kernel_rfl) (by kernel_rfl) (fun _ _ _ h => h) (Or.inl ⟨by rfl, ?_⟩) (by trivial) ?_
                      rotate_left
                      (focus (intro w9 hSw; obtain ⟨s9, T9⟩ := hSw; obtain ⟨lt, c0, c1, c2, c3⟩ := s9.cells; obtain ⟨fT0, fT1⟩ := T9.both; obtain ⟨p9, _⟩ := sh_at s9.z.s (j - 1) hk; go_simp <;> with_reducible rfl))
                      try simp only [Act.put, List.setIfInBounds_toArray, List.set_cons_zero, List.set_cons_succ]
                      refine wpAnyH_take (i := 6) (oi := { dst := some 39, op := Op.load 3 (Operand.tmp 38), type := 3, pos := "ref.go:326", after := #[{ on := 5, ground := Ground.data }, { on := 4, ground := Ground.guard }], guard := some (4, false) }) (v := ?_) rfl (by kernel_rfl) (by kernel_rfl) (by kernel_rfl) (fun _ _ _ h => h) (Or.inl ⟨by rfl, ?_⟩) (by trivial) ?_
                      rotate_left
                      (focus (intro w9 hSw; obtain ⟨s9, T9⟩ := hSw; obtain ⟨lt, c0, c1, c2, c3⟩ := s9.cells; obtain ⟨fT0, fT1⟩ := T9.both; obtain ⟨p9, _⟩ := sh_at s9.z.s (j - 1) hk; go_simp <;> with_reducible rfl))
                      try simp only [Act.put, List.setIfInBounds_toArray, List.set_cons_zero, List.set_cons_succ]
                      refine wpAnyH_take (i := 7) (oi := { dst := some 40, op := Op.binOp BinOp.lss 3 (Operand.tmp 39) (Operand.const (Value.int IntKind.i64 (-64800))) 3, type := 4, pos := "ref.go:326", after := #[{ on := 6, ground := Ground.data }, { on := 4, ground := Ground.guard }], guard := some (4, false) }) (v := ?_) rfl (by kernel_rfl) (by kernel_rfl) (by kernel_rfl) (fun _ _ _ h => h) (Or.inl ⟨by rfl, ?_⟩) (by trivial) ?_
                      rotate_left
                      (focus (intro w9 hSw; obtain ⟨s9, T9⟩ := hSw; obtain ⟨lt, c0, c1, c2, c3⟩ := s9.cells; obtain ⟨fT0, fT1⟩ := T9.both; obtain ⟨p9, _⟩ := sh_at s9.z.s (j - 1) hk; go_simp <;> with_reducible rfl))
                      try simp only [Act.put, List.setIfInBounds_toArray, List.set_cons_zero, List.set_cons_succ]
                      refine wpAnyH_take (i := 8) (oi := { dst := some 41, op := Op.pick (Operand.tmp 37) (Operand.const (Value.bool true)) (Operand.tmp 40), type := 4, pos := "ref.go:326", after := #[{ on := 4, ground := Ground.data }, { on := 7, ground := Ground.data }], guard := none }) (v := ?_) rfl (by kernel_rfl) (by kernel_rfl) (by kernel_rfl) (fun _ _ _ h => h) (Or.inl ⟨by rfl, ?_⟩) (by trivial) ?_
                      rotate_left
                      (focus (intro w9 hSw; obtain ⟨s9, T9⟩ := hSw; obtain ⟨lt, c0, c1, c2, c3⟩ := s9.cells; obtain ⟨fT0, fT1⟩ := T9.both; obtain ⟨p9, _⟩ := sh_at s9.z.s (j - 1) hk; go_simp <;> with_reducible rfl))
                      try simp only [Act.put, List.setIfInBounds_toArray, List.set_cons_zero, List.set_cons_succ]
                      refine wpAnyH_take (i := 9) (oi := { dst := some 42, op := Op.move (Operand.tmp 41), type := 4, pos := "ref.go:326", after := #[{ on := 8, ground := Ground.data }, { on := 4, ground := Ground.chain }], guard := none }) (v := ?_) rfl (by kernel_rfl) (by kernel_rfl) (by kernel_rfl) (fun _ _ _ h => h) (Or.inl ⟨by rfl, ?_⟩) (by trivial) ?_
                      rotate_left
                      (focus (intro w9 hSw; obtain ⟨s9, T9⟩ := hSw; obtain ⟨lt, c0, c1, c2, c3⟩ := s9.cells; obtain ⟨fT0, fT1⟩ := T9.both; obtain ⟨p9, _⟩ := sh_at s9.z.s (j - 1) hk; go_simp <;> with_reducible rfl))
                      try simp only [Act.put, List.setIfInBounds_toArray, List.set_cons_zero, List.set_cons_succ]
                      refine wpAnyH_take (i := 10) (oi := { dst := some 43, op := Op.fieldAddr 29 (Operand.tmp 4) 1, type := 0, pos := "ref.go:326", after := #[{ on := 9, ground := Ground.guard }], guard := some (9, false) }) (v := ?_) rfl (by kernel_rfl) (by kernel_rfl) (by kernel_rfl) (fun _ _ _ h => h) (Or.inl ⟨by rfl, ?_⟩) (by trivial) ?_
                      rotate_left
                      (focus (intro w9 hSw; obtain ⟨s9, T9⟩ := hSw; obtain ⟨lt, c0, c1, c2, c3⟩ := s9.cells; obtain ⟨fT0, fT1⟩ := T9.both; obtain ⟨p9, _⟩ := sh_at s9.z.s (j - 1) hk; go_simp <;> with_reducible rfl))
                      try simp only [Act.put, List.setIfInBounds_toArray, List.set_cons_zero, List.set_cons_succ]
                      refine wpAnyH_take (i := 11) (oi := { dst := some 44, op := Op.load 3 (Operand.tmp 43), type := 3, pos := "ref.go:326", after := #[{ on := 10, ground := Ground.data }, { on := 9, ground := Ground.guard }], guard := some (9, false) }) (v := ?_) rfl (by kernel_rfl) (by kernel_rfl) (by kernel_rfl) (fun _ _ _ h => h) (Or.inl ⟨by rfl, ?_⟩) (by trivial) ?_
                      rotate_left
                      (focus (intro w9 hSw; obtain ⟨s9, T9⟩ := hSw; obtain ⟨lt, c0, c1, c2, c3⟩ := s9.cells; obtain ⟨fT0, fT1⟩ := T9.both; obtain ⟨p9, _⟩ := sh_at s9.z.s (j - 1) hk; go_simp <;> with_reducible rfl))
                      try simp only [Act.put, List.setIfInBounds_toArray, List.set_cons_zero, List.set_cons_succ]
                      refine wpAnyH_take (i := 12) (oi := { dst := some 45, op := Op.binOp BinOp.gtr 3 (Operand.tmp 44) (Operand.const (Value.int IntKind.i64 64800)) 3, type := 4, pos := "ref.go:326", after := #[{ on := 11, ground := Ground.data }, { on := 9, ground := Ground.guard }], guard := some (9, false) }) (v := ?_) rfl (by kernel_rfl) (by kernel_rfl) (by kernel_rfl) (fun _ _ _ h => h) (Or.inl ⟨by rfl, ?_⟩) (by trivial) ?_
                      rotate_left
                      (focus (intro w9 hSw; obtain ⟨s9, T9⟩ := hSw; obtain ⟨lt, c0, c1, c2, c3⟩ := s9.cells; obtain ⟨fT0, fT1⟩ := T9.both; obtain ⟨p9, _⟩ := sh_at s9.z.s (j - 1) hk; go_simp <;> with_reducible rfl))
                      try simp only [Act.put, List.setIfInBounds_toArray, List.set_cons_zero, List.set_cons_succ]
                      refine wpAnyH_take (i := 13) (oi := { dst := some 46, op := Op.pick (Operand.tmp 42) (Operand.const (Value.bool true)) (Operand.tmp 45), type := 4, pos := "ref.go:326", after := #[{ on := 9, ground := Ground.data }, { on := 12, ground := Ground.data }], guard := none }) (v := ?_) rfl (by kernel_rfl) (by kernel_rfl) (by kernel_rfl) (fun _ _ _ h => h) (Or.inl ⟨by rfl, ?_⟩) (by trivial) ?_
                      rotate_left
                      (focus (intro w9 hSw; obtain ⟨s9, T9⟩ := hSw; obtain ⟨lt, c0, c1, c2, c3⟩ := s9.cells; obtain ⟨fT0, fT1⟩ := T9.both; obtain ⟨p9, _⟩ := sh_at s9.z.s (j - 1) hk; go_simp <;> with_reducible rfl))
                      try simp only [Act.put, List.setIfInBounds_toArray, List.set_cons_zero, List.set_cons_succ]
                      refine wpAnyH_take (i := 14) (oi := { dst := some 47, op := Op.move (Operand.tmp 46), type := 4, pos := "ref.go:326", after := #[{ on := 13, ground := Ground.data }, { on := 9, ground := Ground.chain }], guard := none }) (v := ?_) rfl (by kernel_rfl) (by kernel_rfl) (by kernel_rfl) (fun _ _ _ h => h) (Or.inl ⟨by rfl, ?_⟩) (by trivial) ?_
                      rotate_left
                      (focus (intro w9 hSw; obtain ⟨s9, T9⟩ := hSw; obtain ⟨lt, c0, c1, c2, c3⟩ := s9.cells; obtain ⟨fT0, fT1⟩ := T9.both; obtain ⟨p9, _⟩ := sh_at s9.z.s (j - 1) hk; go_simp <;> with_reducible rfl))
                      try simp only [Act.put, List.setIfInBounds_toArray, List.set_cons_zero, List.set_cons_succ]
                      refine wpAnyH_take (i := 15) (oi := { dst := some 48, op := Op.move (Operand.tmp 3), type := 3, pos := "ref.go:326", after := #[{ on := 14, ground := Ground.guard }], guard := some (14, false) }) (v := ?_) rfl (by kernel_rfl) (by kernel_rfl) (by kernel_rfl) (fun _ _ _ h => h) (Or.inl ⟨by rfl, ?_⟩) (by trivial) ?_
                      rotate_left
                      (focus (intro w9 hSw; obtain ⟨s9, T9⟩ := hSw; obtain ⟨lt, c0, c1, c2, c3⟩ := s9.cells; obtain ⟨fT0, fT1⟩ := T9.both; obtain ⟨p9, _⟩ := sh_at s9.z.s (j - 1) hk; go_simp <;> with_reducible rfl))
                      try simp only [Act.put, List.setIfInBounds_toArray, List.set_cons_zero, List.set_cons_succ]
                      refine wpAnyH_take (i := 16) (oi := { dst := some 49, op := Op.binOp BinOp.gtr 3 (Operand.tmp 48) (Operand.const (Value.int IntKind.i64 0)) 3, type := 4, pos := "ref.go:326", after := #[{ on := 15, ground := Ground.data }, { on := 14, ground := Ground.guard }], guard := some (14, false) }) (v := ?_) rfl (by kernel_rfl) (by kernel_rfl) (by kernel_rfl) (fun _ _ _ h => h) (Or.inl ⟨by rfl, ?_⟩) (by trivial) ?_
                      rotate_left
                      (focus (intro w9 hSw; obtain ⟨s9, T9⟩ := hSw; obtain ⟨lt, c0, c1, c2, c3⟩ := s9.cells; obtain ⟨fT0, fT1⟩ := T9.both; obtain ⟨p9, _⟩ := sh_at s9.z.s (j - 1) hk; go_simp <;> with_reducible rfl))
                      try simp only [Act.put, List.setIfInBounds_toArray, List.set_cons_zero, List.set_cons_succ]
                      refine wpAnyH_take (i := 17) (oi := { dst := some 50, op := Op.move (Operand.tmp 49), type := 4, pos := "ref.go:326", after := #[{ on := 16, ground := Ground.data }, { on := 14, ground := Ground.chain }, { on := 14, ground := Ground.guard }], guard := some (14, false) }) (v := ?_) rfl (by kernel_rfl) (by kernel_rfl) (by kernel_rfl) (fun _ _ _ h => h) (Or.inl ⟨by rfl, ?_⟩) (by trivial) ?_
                      rotate_left
                      (focus (intro w9 hSw; obtain ⟨s9, T9⟩ := hSw; obtain ⟨lt, c0, c1, c2, c3⟩ := s9.cells; obtain ⟨fT0, fT1⟩ := T9.both; obtain ⟨p9, _⟩ := sh_at s9.z.s (j - 1) hk; go_simp <;> with_reducible rfl))
                      try simp only [Act.put, List.setIfInBounds_toArray, List.set_cons_zero, List.set_cons_succ]
                      refine wpAnyH_take (i := 18) (oi := { dst := some 51, op := Op.fieldAddr 29 (Operand.tmp 4) 0, type := 0, pos := "ref.go:326", after := #[{ on := 17, ground := Ground.guard }], guard := some (17, true) }) (v := ?_) rfl (by kernel_rfl) (by kernel_rfl) (by kernel_rfl) (fun _ _ _ h => h) (Or.inl ⟨by rfl, ?_⟩) (by trivial) ?_
                      rotate_left
                      (focus (intro w9 hSw; obtain ⟨s9, T9⟩ := hSw; obtain ⟨lt, c0, c1, c2, c3⟩ := s9.cells; obtain ⟨fT0, fT1⟩ := T9.both; obtain ⟨p9, _⟩ := sh_at s9.z.s (j - 1) hk; go_simp <;> with_reducible rfl))
                      try simp only [Act.put, List.setIfInBounds_toArray, List.set_cons_zero, List.set_cons_succ]
                      refine wpAnyH_take (i := 19) (oi := { dst := some 52, op := Op.load 3 (Operand.tmp 51), type := 3, pos := "ref.go:326", after := #[{ on := 18, ground := Ground.data }, { on := 17, ground := Ground.guard }], guard := some (17, true) }) (v := ?_) rfl (by kernel_rfl) (by kernel_rfl) (by kernel_rfl) (fun _ _ _ h => h) (Or.inl ⟨by rfl, ?_⟩) (by trivial) ?_
                      rotate_left
                      (focus (intro w9 hSw; obtain ⟨s9, T9⟩ := hSw; obtain ⟨lt, c0, c1, c2, c3⟩ := s9.cells; obtain ⟨fT0, fT1⟩ := T9.both; obtain ⟨p9, _⟩ := sh_at s9.z.s (j - 1) hk; go_simp <;> with_reducible rfl))
                      try simp only [Act.put, List.setIfInBounds_toArray, List.set_cons_zero, List.set_cons_succ]
                      refine wpAnyH_take (i := 20) (oi := { dst := some 53, op := Op.fieldAddr 25 (Operand.tmp 1) 1, type := 0, pos := "ref.go:326", after := #[{ on := 17, ground := Ground.guard }], guard := some (17, true) }) (v := ?_) rfl (by kernel_rfl) (by kernel_rfl) (by kernel_rfl) (fun _ _ _ h => h) (Or.inl ⟨by rfl, ?_⟩) (by trivial) ?_
                      rotate_left
                      (focus (intro w9 hSw; obtain ⟨s9, T9⟩ := hSw; obtain ⟨lt, c0, c1, c2, c3⟩ := s9.cells; obtain ⟨fT0, fT1⟩ := T9.both; obtain ⟨p9, _⟩ := sh_at s9.z.s (j - 1) hk; go_simp <;> with_reducible rfl))
                      try simp only [Act.put, List.setIfInBounds_toArray, List.set_cons_zero, List.set_cons_succ]
                      refine wpAnyH_take (i := 21) (oi := { dst := some 54, op := Op.load 22 (Operand.tmp 53), type := 22, pos := "ref.go:326", after := #[{ on := 20, ground := Ground.data }, { on := 17, ground := Ground.guard }], guard := some (17, true) }) (v := ?_) rfl (by kernel_rfl) (by kernel_rfl) (by kernel_rfl) (fun _ _ _ h => h) (Or.inl ⟨by rfl, ?_⟩) (by trivial) ?_
                      rotate_left
                      (focus (intro w9 hSw; obtain ⟨s9, T9⟩ := hSw; obtain ⟨lt, c0, c1, c2, c3⟩ := s9.cells; obtain ⟨fT0, fT1⟩ := T9.both; obtain ⟨p9, _⟩ := sh_at s9.z.s (j - 1) hk; go_simp <;> with_reducible rfl))
                      try simp only [Act.put, List.setIfInBounds_toArray, List.set_cons_zero, List.set_cons_succ]
                      refine wpAnyH_take (i := 22) (oi := { dst := some 55, op := Op.move (Operand.tmp 3), type := 3, pos := "ref.go:326", after := #[{ on := 17, ground := Ground.guard }], guard := some (17, true) }) (v := ?_) rfl (by kernel_rfl) (by kernel_rfl) (by kernel_rfl) (fun _ _ _ h => h) (Or.inl ⟨by rfl, ?_⟩) (by trivial) ?_
                      rotate_left
                      (focus (intro w9 hSw; obtain ⟨s9, T9⟩ := hSw; obtain ⟨lt, c0, c1, c2, c3⟩ := s9.cells; obtain ⟨fT0, fT1⟩ := T9.both; obtain ⟨p9, _⟩ := sh_at s9.z.s (j - 1) hk; go_simp <;> with_reducible rfl))
                      try simp only [Act.put, List.setIfInBounds_toArray, List.set_cons_zero, List.set_cons_succ]
                      refine wpAnyH_take (i := 23) (oi := { dst := some 56, op := Op.binOp BinOp.sub 3 (Operand.tmp 55) (Operand.const (Value.int IntKind.i64 1)) 3, type := 3, pos := "ref.go:326", after := #[{ on := 22, ground := Ground.data }, { on := 17, ground := Ground.guard }], guard := some (17, true) }) (v := ?_) rfl (by kernel_rfl) (by kernel_rfl) (by kernel_rfl) (fun _ _ _ h => h) (Or.inl ⟨by rfl, ?_⟩) (by trivial) ?_
                      rotate_left
                      (focus (intro w9 hSw; obtain ⟨s9, T9⟩ := hSw; obtain ⟨lt, c0, c1, c2, c3⟩ := s9.cells; obtain ⟨fT0, fT1⟩ := T9.both; obtain ⟨p9, _⟩ := sh_at s9.z.s (j - 1) hk; go_simp <;> with_reducible rfl))
                      try simp only [Act.put, List.setIfInBounds_toArray, List.set_cons_zero, List.set_cons_succ]
                      refine wpAnyH_take (i := 24) (oi := { dst := some 57, op := Op.indexAddr 22 (Operand.tmp 54) (Operand.tmp 56), type := 0, pos := "ref.go:326", after := #[{ on := 21, ground := Ground.data }, { on := 23, ground := Ground.data }, { on := 17, ground := Ground.guard }], guard := some (17, true) }) (v := ?_) rfl (by kernel_rfl) (by kernel_rfl) (by kernel_rfl) (fun _ _ _ h => h) (Or.inl ⟨by rfl, ?_⟩) (by trivial) ?_
                      rotate_left
                      (focus (intro w9 hSw; obtain ⟨s9, T9⟩ := hSw; obtain ⟨lt, c0, c1, c2, c3⟩ := s9.cells; obtain ⟨fT0, fT1⟩ := T9.both; obtain ⟨p9, _⟩ := sh_at s9.z.s (j - 1) hk; go_simp <;> with_reducible rfl))
                      try simp only [Act.put, List.setIfInBounds_toArray, List.set_cons_zero, List.set_cons_succ]
                      refine wpAnyH_take (i := 25) (oi := { dst := some 58, op := Op.fieldAddr 29 (Operand.tmp 57) 0, type := 0, pos := "ref.go:326", after := #[{ on := 24, ground := Ground.data }, { on := 17, ground := Ground.guard }], guard := some (17, true) }) (v := ?_) rfl (by kernel_rfl) (by kernel_rfl) (by kernel_rfl) (fun _ _ _ h => h) (Or.inl ⟨by rfl, ?_⟩) (by trivial) ?_
                      rotate_left
                      (focus (intro w9 hSw; obtain ⟨s9, T9⟩ := hSw; obtain ⟨lt, c0, c1, c2, c3⟩ := s9.cells; obtain ⟨fT0, fT1⟩ := T9.both; obtain ⟨p9, _⟩ := sh_at s9.z.s (j - 1) hk; go_simp <;> with_reducible rfl))
                      try simp only [Act.put, List.setIfInBounds_toArray, List.set_cons_zero, List.set_cons_succ]
                      refine wpAnyH_take (i := 26) (oi := { dst := some 59, op := Op.load 3 (Operand.tmp 58), type := 3, pos := "ref.go:326", after := #[{ on := 25, ground := Ground.data }, { on := 17, ground := Ground.guard }], guard := some (17, true) }) (v := ?_) rfl (by kernel_rfl) (by kernel_rfl) (by kernel_rfl) (fun _ _ _ h => h) (Or.inl ⟨by rfl, ?_⟩) (by trivial) ?_
                      rotate_left
                      (focus (intro w9 hSw; obtain ⟨s9, T9⟩ := hSw; obtain ⟨lt, c0, c1, c2, c3⟩ := s9.cells; obtain ⟨fT0, fT1⟩ := T9.both; obtain ⟨p9, _⟩ := sh_at s9.z.s (j - 1) hk; go_simp <;> with_reducible rfl))
                      try simp only [Act.put, List.setIfInBounds_toArray, List.set_cons_zero, List.set_cons_succ]
                      refine wpAnyH_take (i := 27) (oi := { dst := some 60, op := Op.binOp BinOp.sub 3 (Operand.tmp 52) (Operand.tmp 59) 3, type := 3, pos := "ref.go:326", after := #[{ on := 19, ground := Ground.data }, { on := 26, ground := Ground.data }, { on := 17, ground := Ground.guard }], guard := some (17, true) }) (v := ?_) rfl (by kernel_rfl) (by kernel_rfl) (by kernel_rfl) (fun _ _ _ h => h) (Or.inl ⟨by rfl, ?_⟩) (by trivial) ?_
                      rotate_left
                      (focus (intro w9 hSw; obtain ⟨s9, T9⟩ := hSw; obtain ⟨lt, c0, c1, c2, c3⟩ := s9.cells; obtain ⟨fT0, fT1⟩ := T9.both; obtain ⟨p9, _⟩ := sh_at s9.z.s (j - 1) hk; go_simp <;> with_reducible rfl))
                      try simp only [Act.put, List.setIfInBounds_toArray, List.set_cons_zero, List.set_cons_succ]
                      refine wpAnyH_take (i := 28) (oi := { dst := some 61, op := Op.binOp BinOp.lss 3 (Operand.tmp 60) (Operand.const (Value.int IntKind.i64 200000)) 3, type := 4, pos := "ref.go:326", after := #[{ on := 27, ground := Ground.data }, { on := 17, ground := Ground.guard }], guard := some (17, true) }) (v := ?_) rfl (by kernel_rfl) (by kernel_rfl) (by kernel_rfl) (fun _ _ _ h => h) (Or.inl ⟨by rfl, ?_⟩) (by trivial) ?_
                      rotate_left
                      (focus (intro w9 hSw; obtain ⟨s9, T9⟩ := hSw; obtain ⟨lt, c0, c1, c2, c3⟩ := s9.cells; obtain ⟨fT0, fT1⟩ := T9.both; obtain ⟨p9, _⟩ := sh_at s9.z.s (j - 1) hk; go_simp <;> with_reducible rfl))
                      try simp only [Act.put, List.setIfInBounds_toArray, List.set_cons_zero, List.set_cons_succ]
                      refine wpAnyH_take (i := 29) (oi := { dst := some 62, op := Op.pick (Operand.tmp 50) (Operand.tmp 61) (Operand.const (Value.bool false)), type := 4, pos := "ref.go:326", after := #[{ on := 17, ground := Ground.data }, { on := 28, ground := Ground.data }, { on := 14, ground := Ground.guard }], guard := some (14, false) }) (v := ?_) rfl (by kernel_rfl) (by kernel_rfl) (by kernel_rfl) (fun _ _ _ h => h) (Or.inl ⟨by rfl, ?_⟩) (by trivial) ?_
                      rotate_left
                      (focus (intro w9 hSw; obtain ⟨s9, T9⟩ := hSw; obtain ⟨lt, c0, c1, c2, c3⟩ := s9.cells; obtain ⟨fT0, fT1⟩ := T9.both; obtain ⟨p9, _⟩ := sh_at s9.z.s (j - 1) hk; go_simp <;> with_reducible rfl))
                      try simp only [Act.put, List.setIfInBounds_toArray, List.set_cons_zero, List.set_cons_succ]
                      refine wpAnyH_take (i := 30) (oi := { dst := some 63, op := Op.pick (Operand.tmp 47) (Operand.const (Value.bool true)) (Operand.tmp 62), type := 4, pos := "ref.go:326", after := #[{ on := 14, ground := Ground.data }, { on := 29, ground := Ground.data }], guard := none }) (v := ?_) rfl (by kernel_rfl) (by kernel_rfl) (by kernel_rfl) (fun _ _ _ h => h) (Or.inl ⟨by rfl, ?_⟩) (by trivial) ?_
                      rotate_left
                      (focus (intro w9 hSw; obtain ⟨s9, T9⟩ := hSw; obtain ⟨lt, c0, c1, c2, c3⟩ := s9.cells; obtain ⟨fT0, fT1⟩ := T9.both; obtain ⟨p9, _⟩ := sh_at s9.z.s (j - 1) hk; go_simp <;> with_reducible rfl))
                      try simp only [Act.put, List.setIfInBounds_toArray, List.set_cons_zero, List.set_cons_succ]
                      refine wpAnyH_done (by kernel_rfl) ?_ _
                      go_wp2_with fail
                      go_ret
                      exact ⟨by rw [mayZB_no fun h => absurd (mayS_gap hlt q3 h.sh) (by omega)]; rfl, s.b⟩
                    · have q4t := decide_eq_false q4
                      refine wp_region_held_drew (S := fun w9 => St w w9 w.heap.size bs (some ad) c A' c' fr L Y ∧ Two w9 pT (L[j].at_) (L[j].off)) (by kernel_rfl) ⟨s, T⟩ (fun _ => ?_)
                      refine wpAnyH_take (i := 0) (oi := { dst := some 33, op := Op.fieldAddr 29 (Operand.tmp 4) 0, type := 0, pos := "ref.go:326", after := #[], guard := none }) (v := ?_) rfl (by kernel_rfl) (by kernel_rfl) (by kernel_rfl) (fun _ _ _ h => h) (Or.inl ⟨by rfl, ?_⟩) (by trivial) ?_
                      rotate_left
                      (focus (intro w9 hSw; obtain ⟨s9, T9⟩ := hSw; obtain ⟨lt, c0, c1, c2, c3⟩ := s9.cells; obtain ⟨fT0, fT1⟩ := T9.both; obtain ⟨p9, _⟩ := sh_at s9.z.s (j - 1) hk; go_simp <;> with_reducible rfl))
                      try simp only [Act.put, List.setIfInBounds_toArray, List.set_cons_zero, List.set_cons_succ]
                      refine wpAnyH_take (i := 1) (oi := { dst := some 34, op := Op.load 3 (Operand.tmp 33), type := 3, pos := "ref.go:326", after := #[{ on := 0, ground := Ground.data }], guard := none }) (v := ?_) rfl (by kernel_rfl) (by kernel_rfl) (by kernel_rfl) (fun _ _ _ h => h) (Or.inl ⟨by rfl, ?_⟩) (by trivial) ?_
                      rotate_left
                      (focus (intro w9 hSw; obtain ⟨s9, T9⟩ := hSw; obtain ⟨lt, c0, c1, c2, c3⟩ := s9.cells; obtain ⟨fT0, fT1⟩ := T9.both; obtain ⟨p9, _⟩ := sh_at s9.z.s (j - 1) hk; go_simp <;> with_reducible rfl))
                      try simp only [Act.put, List.setIfInBounds_toArray, List.set_cons_zero, List.set_cons_succ]
                      refine wpAnyH_ready (rs := [2]) (by kernel_rfl) (by simp) ?_
                      refine AllReadyH.cons (o := { dst := some 35, op := Op.call { callee := Callee.value (Operand.func 33), args := #[Operand.tmp 34], argTypes := #[3] }, type := 4, pos := "ref.go:326", after := #[{ on := 1, ground := Ground.data }], guard := none }) rfl (fun K hK => ?_) AllReadyH.nil
                      go_simp
                      refine (rmay_any _ _).mono ?_
                      rintro e w3 ⟨rfl, rfl⟩
                      rw [q1t]
                      go_wp2_with fail
                      refine hK.out _ _ ⟨s, T⟩ (fun _ => ?_)
                      clear hK K
                      try simp only [Act.put, List.setIfInBounds_toArray, List.set_cons_zero, List.set_cons_succ]
                      refine wpAnyH_take (i := 3) (oi := { dst := some 36, op := Op.unOp UnOp.not 4 (Operand.tmp 35), type := 4, pos := "ref.go:326", after := #[{ on := 2, ground := Ground.data }], guard := none }) (v := ?_) rfl (by kernel_rfl) (by kernel_rfl) (by kernel_rfl) (fun _ _ _ h => h) (Or.inl ⟨by rfl, ?_⟩) (by trivial) ?_
                      rotate_left
                      (focus (intro w9 hSw; obtain ⟨s9, T9⟩ := hSw; obtain ⟨lt, c0, c1, c2, c3⟩ := s9.cells; obtain ⟨fT0, fT1⟩ := T9.both; obtain ⟨p9, _⟩ := sh_at s9.z.s (j - 1) hk; go_simp <;> with_reducible rfl))
                      try simp only [Act.put, List.setIfInBounds_toArray, List.set_cons_zero, List.set_cons_succ]
                      refine wpAnyH_take (i := 4) (oi := { dst := some 37, op := Op.move (Operand.tmp 36), type := 4, pos := "ref.go:326", after := #[{ on := 3, ground := Ground.data }, { on := 2, ground := Ground.chain }], guard := none }) (v := ?_) rfl (by kernel_rfl) (by kernel_rfl) (by kernel_rfl) (fun _ _ _ h => h) (Or.inl ⟨by rfl, ?_⟩) (by trivial) ?_
                      rotate_left
                      (focus (intro w9 hSw; obtain ⟨s9, T9⟩ := hSw; obtain ⟨lt, c0, c1, c2, c3⟩ := s9.cells; obtain ⟨fT0, fT1⟩ := T9.both; obtain ⟨p9, _⟩ := sh_at s9.z.s (j - 1) hk; go_simp <;> with_reducible rfl))
                      try simp only [Act.put, List.setIfInBounds_toArray, List.set_cons_zero, List.set_cons_succ]
                      refine wpAnyH_take (i := 5) (oi := { dst := some 38, op := Op.fieldAddr 29 (Operand.tmp 4) 1, type := 0, pos := "ref.go:326", after := #[{ on := 4, ground := Ground.guard }], guard := some (4, false) }) (v := ?_) rfl (by kernel_rfl) (by kernel_rfl) (by kernel_rfl) (fun _ _ _ h => h) (Or.inl ⟨by rfl, ?_⟩) (by trivial) ?_
                      rotate_left
                      (focus (intro w9 hSw; obtain ⟨s9, T9⟩ := hSw; obtain ⟨lt, c0, c1, c2, c3⟩ := s9.cells; obtain ⟨fT0, fT1⟩ := T9.both; obtain ⟨p9, _⟩ := sh_at s9.z.s (j - 1) hk; go_simp <;> with_reducible rfl))
                      try simp only [Act.put, List.setIfInBounds_toArray, List.set_cons_zero, List.set_cons_succ]
                      refine wpAnyH_take (i := 6) (oi := { dst := some 39, op := Op.load 3 (Operand.tmp 38), type := 3, pos := "ref.go:326", after := #[{ on := 5, ground := Ground.data }, { on := 4, ground := Ground.guard }], guard := some (4, false) }) (v := ?_) rfl (by kernel_rfl) (by kernel_rfl) (by kernel_rfl) (fun _ _ _ h => h) (Or.inl ⟨by rfl, ?_⟩) (by trivial) ?_
                      rotate_left
                      (focus (intro w9 hSw; obtain ⟨s9, T9⟩ := hSw; obtain ⟨lt, c0, c1, c2, c3⟩ := s9.cells; obtain ⟨fT0, fT1⟩ := T9.both; obtain ⟨p9, _⟩ := sh_at s9.z.s (j - 1) hk; go_simp <;> with_reducible rfl))
                      try simp only [Act.put, List.setIfInBounds_toArray, List.set_cons_zero, List.set_cons_succ]
                      refine wpAnyH_take (i := 7) (oi := { dst := some 40, op := Op.binOp BinOp.lss 3 (Operand.tmp 39) (Operand.const (Value.int IntKind.i64 (-64800))) 3, type := 4, pos := "ref.go:326", after := #[{ on := 6, ground := Ground.data }, { on := 4, ground := Ground.guard }], guard := some (4, false) }) (v := ?_) rfl (by kernel_rfl) (by kernel_rfl) (by kernel_rfl) (fun _ _ _ h => h) (Or.inl ⟨by rfl, ?_⟩) (by trivial) ?_
                      rotate_left
                      (focus (intro w9 hSw; obtain ⟨s9, T9⟩ := hSw; obtain ⟨lt, c0, c1, c2, c3⟩ := s9.cells; obtain ⟨fT0, fT1⟩ := T9.both; obtain ⟨p9, _⟩ := sh_at s9.z.s (j - 1) hk; go_simp <;> with_reducible rfl))
                      try simp only [Act.put, List.setIfInBounds_toArray, List.set_cons_zero, List.set_cons_succ]
                      refine wpAnyH_take (i := 8) (oi := { dst := some 41, op := Op.pick (Operand.tmp 37) (Operand.const (Value.bool true)) (Operand.tmp 40), type := 4, pos := "ref.go:326", after := #[{ on := 4, ground := Ground.data }, { on := 7, ground := Ground.data }], guard := none }) (v := ?_) rfl (by kernel_rfl) (by kernel_rfl) (by kernel_rfl) (fun _ _ _ h => h) (Or.inl ⟨by rfl, ?_⟩) (by trivial) ?_
                      rotate_left
                      (focus (intro w9 hSw; obtain ⟨s9, T9⟩ := hSw; obtain ⟨lt, c0, c1, c2, c3⟩ := s9.cells; obtain ⟨fT0, fT1⟩ := T9.both; obtain ⟨p9, _⟩ := sh_at s9.z.s (j - 1) hk; go_simp <;> with_reducible rfl))
                      try simp only [Act.put, List.setIfInBounds_toArray, List.set_cons_zero, List.set_cons_succ]
                      refine wpAnyH_take (i := 9) (oi := { dst := some 42, op := Op.move (Operand.tmp 41), type := 4, pos := "ref.go:326", after := #[{ on := 8, ground := Ground.data }, { on := 4, ground := Ground.chain }], guard := none }) (v := ?_) rfl (by kernel_rfl) (by kernel_rfl) (by kernel_rfl) (fun _ _ _ h => h) (Or.inl ⟨by rfl, ?_⟩) (by trivial) ?_
                      rotate_left
                      (focus (intro w9 hSw; obtain ⟨s9, T9⟩ := hSw; obtain ⟨lt, c0, c1, c2, c3⟩ := s9.cells; obtain ⟨fT0, fT1⟩ := T9.both; obtain ⟨p9, _⟩ := sh_at s9.z.s (j - 1) hk; go_simp <;> with_reducible rfl))
                      try simp only [Act.put, List.setIfInBounds_toArray, List.set_cons_zero, List.set_cons_succ]
                      refine wpAnyH_take (i := 10) (oi := { dst := some 43, op := Op.fieldAddr 29 (Operand.tmp 4) 1, type := 0, pos := "ref.go:326", after := #[{ on := 9, ground := Ground.guard }], guard := some (9, false) }) (v := ?_) rfl (by kernel_rfl) (by kernel_rfl) (by kernel_rfl) (fun _ _ _ h => h) (Or.inl ⟨by rfl, ?_⟩) (by trivial) ?_
                      rotate_left
                      (focus (intro w9 hSw; obtain ⟨s9, T9⟩ := hSw; obtain ⟨lt, c0, c1, c2, c3⟩ := s9.cells; obtain ⟨fT0, fT1⟩ := T9.both; obtain ⟨p9, _⟩ := sh_at s9.z.s (j - 1) hk; go_simp <;> with_reducible rfl))
                      try simp only [Act.put, List.setIfInBounds_toArray, List.set_cons_zero, List.set_cons_succ]
                      refine wpAnyH_take (i := 11) (oi := { dst := some 44, op := Op.load 3 (Operand.tmp 43), type := 3, pos := "ref.go:326", after := #[{ on := 10, ground := Ground.data }, { on := 9, ground := Ground.guard }], guard := some (9, false) }) (v := ?_) rfl (by kernel_rfl) (by kernel_rfl) (by kernel_rfl) (fun _ _ _ h => h) (Or.inl ⟨by rfl, ?_⟩) (by trivial) ?_
                      rotate_left
                      (focus (intro w9 hSw; obtain ⟨s9, T9⟩ := hSw; obtain ⟨lt, c0, c1, c2, c3⟩ := s9.cells; obtain ⟨fT0, fT1⟩ := T9.both; obtain ⟨p9, _⟩ := sh_at s9.z.s (j - 1) hk; go_simp <;> with_reducible rfl))
                      try simp only [Act.put, List.setIfInBounds_toArray, List.set_cons_zero, List.set_cons_succ]
                      refine wpAnyH_take (i := 12) (oi := { dst := some 45, op := Op.binOp BinOp.gtr 3 (Operand.tmp 44) (Operand.const (Value.int IntKind.i64 64800)) 3, type := 4, pos := "ref.go:326", after := #[{ on := 11, ground := Ground.data }, { on := 9, ground := Ground.guard }], guard := some (9, false) }) (v := ?_) rfl (by kernel_rfl) (by kernel_rfl) (by kernel_rfl) (fun _ _ _ h => h) (Or.inl ⟨by rfl, ?_⟩) (by trivial) ?_
                      rotate_left
                      (focus (intro w9 hSw; obtain ⟨s9, T9⟩ := hSw; obtain ⟨lt, c0, c1, c2, c3⟩ := s9.cells; obtain ⟨fT0, fT1⟩ := T9.both; obtain ⟨p9, _⟩ := sh_at s9.z.s (j - 1) hk; go_simp <;> with_reducible rfl))
                      try simp only [Act.put, List.setIfInBounds_toArray, List.set_cons_zero, List.set_cons_succ]
                      refine wpAnyH_take (i := 13) (oi := { dst := some 46, op := Op.pick (Operand.tmp 42) (Operand.const (Value.bool true)) (Operand.tmp 45), type := 4, pos := "ref.go:326", after := #[{ on := 9, ground := Ground.data }, { on := 12, ground := Ground.data }], guard := none }) (v := ?_) rfl (by kernel_rfl) (by kernel_rfl) (by kernel_rfl) (fun _ _ _ h => h) (Or.inl ⟨by rfl, ?_⟩) (by trivial) ?_
                      rotate_left
                      (focus (intro w9 hSw; obtain ⟨s9, T9⟩ := hSw; obtain ⟨lt, c0, c1, c2, c3⟩ := s9.cells; obtain ⟨fT0, fT1⟩ := T9.both; obtain ⟨p9, _⟩ := sh_at s9.z.s (j - 1) hk; go_simp <;> with_reducible rfl))
                      try simp only [Act.put, List.setIfInBounds_toArray, List.set_cons_zero, List.set_cons_succ]
                      refine wpAnyH_take (i := 14) (oi := { dst := some 47, op := Op.move (Operand.tmp 46), type := 4, pos := "ref.go:326", after := #[{ on := 13, ground := Ground.data }, { on := 9, ground := Ground.chain }], guard := none }) (v := ?_) rfl (by kernel_rfl) (by kernel_rfl) (by kernel_rfl) (fun _ _ _ h => h) (Or.inl ⟨by rfl, ?_⟩) (by trivial) ?_
                      rotate_left
                      (focus (intro w9 hSw; obtain ⟨s9, T9⟩ := hSw; obtain ⟨lt, c0, c1, c2, c3⟩ := s9.cells; obtain ⟨fT0, fT1⟩ := T9.both; obtain ⟨p9, _⟩ := sh_at s9.z.s (j - 1) hk; go_simp <;> with_reducible rfl))
                      try simp only [Act.put, List.setIfInBounds_toArray, List.set_cons_zero, List.set_cons_succ]
                      refine wpAnyH_take (i := 15) (oi := { dst := some 48, op := Op.move (Operand.tmp 3), type := 3, pos := "ref.go:326", after := #[{ on := 14, ground := Ground.guard }], guard := some (14, false) }) (v := ?_) rfl (by kernel_rfl) (by kernel_rfl) (by kernel_rfl) (fun _ _ _ h => h) (Or.inl ⟨by rfl, ?_⟩) (by trivial) ?_
                      rotate_left
                      (focus (intro w9 hSw; obtain ⟨s9, T9⟩ := hSw; obtain ⟨lt, c0, c1, c2, c3⟩ := s9.cells; obtain ⟨fT0, fT1⟩ := T9.both; obtain ⟨p9, _⟩ := sh_at s9.z.s (j - 1) hk; go_simp <;> with_reducible rfl))
                      try simp only [Act.put, List.setIfInBounds_toArray, List.set_cons_zero, List.set_cons_succ]
                      refine wpAnyH_take (i := 16) (oi := { dst := some 49, op := Op.binOp BinOp.gtr 3 (Operand.tmp 48) (Operand.const (Value.int IntKind.i64 0)) 3, type := 4, pos := "ref.go:326", after := #[{ on := 15, ground := Ground.data }, { on := 14, ground := Ground.guard }], guard := some (14, false) }) (v := ?_) rfl (by kernel_rfl) (by kernel_rfl) (by kernel_rfl) (fun _ _ _ h => h) (Or.inl ⟨by rfl, ?_⟩) (by trivial) ?_
                      rotate_left
                      (focus (intro w9 hSw; obtain ⟨s9, T9⟩ := hSw; obtain ⟨lt, c0, c1, c2, c3⟩ := s9.cells; obtain ⟨fT0, fT1⟩ := T9.both; obtain ⟨p9, _⟩ := sh_at s9.z.s (j - 1) hk; go_simp <;> with_reducible rfl))
                      try simp only [Act.put, List.setIfInBounds_toArray, List.set_cons_zero, List.set_cons_succ]
                      refine wpAnyH_take (i := 17) (oi := { dst := some 50, op := Op.move (Operand.tmp 49), type := 4, pos := "ref.go:326", after := #[{ on := 16, ground := Ground.data }, { on := 14, ground := Ground.chain }, { on := 14, ground := Ground.guard }], guard := some (14, false) }) (v := ?_) rfl (by kernel_rfl) (by kernel_rfl) (by kernel_rfl) (fun _ _ _ h => h) (Or.inl ⟨by rfl, ?_⟩) (by trivial) ?_
                      rotate_left
                      (focus (intro w9 hSw; obtain ⟨s9, T9⟩ := hSw; obtain ⟨lt, c0, c1, c2, c3⟩ := s9.cells; obtain ⟨fT0, fT1⟩ := T9.both; obtain ⟨p9, _⟩ := sh_at s9.z.s (j - 1) hk; go_simp <;> with_reducible rfl))
                      try simp only [Act.put, List.setIfInBounds_toArray, List.set_cons_zero, List.set_cons_succ]
                      refine wpAnyH_take (i := 18) (oi := { dst := some 51, op := Op.fieldAddr 29 (Operand.tmp 4) 0, type := 0, pos := "ref.go:326", after := #[{ on := 17, ground := Ground.guard }], guard := some (17, true) }) (v := ?_) rfl (by kernel_rfl) (by kernel_rfl) (by kernel_rfl) (fun _ _ _ h => h) (Or.inl ⟨by rfl, ?_⟩) (by trivial) ?_
                      rotate_left
                      (focus (intro w9 hSw; obtain ⟨s9, T9⟩ := hSw; obtain ⟨lt, c0, c1, c2, c3⟩ := s9.cells; obtain ⟨fT0, fT1⟩ := T9.both; obtain ⟨p9, _⟩ := sh_at s9.z.s (j - 1) hk; go_simp <;> with_reducible rfl))
                      try simp only [Act.put, List.setIfInBounds_toArray, List.set_cons_zero, List.set_cons_succ]
                      refine wpAnyH_take (i := 19) (oi := { dst := some 52, op := Op.load 3 (Operand.tmp 51), type := 3, pos := "ref.go:326", after := #[{ on := 18, ground := Ground.data }, { on := 17, ground := Ground.guard }], guard := some (17, true) }) (v := ?_) rfl (by kernel_rfl) (by kernel_rfl) (by kernel_rfl) (fun _ _ _ h => h) (Or.inl ⟨by rfl, ?_⟩) (by trivial) ?_
                      rotate_left
                      (focus (intro w9 hSw; obtain ⟨s9, T9⟩ := hSw; obtain ⟨lt, c0, c1, c2, c3⟩ := s9.cells; obtain ⟨fT0, fT1⟩ := T9.both; obtain ⟨p9, _⟩ := sh_at s9.z.s (j - 1) hk; go_simp <;> with_reducible rfl))
                      try simp only [Act.put, List.setIfInBounds_toArray, List.set_cons_zero, List.set_cons_succ]
                      refine wpAnyH_take (i := 20) (oi := { dst := some 53, op := Op.fieldAddr 25 (Operand.tmp 1) 1, type := 0, pos := "ref.go:326", after := #[{ on := 17, ground := Ground.guard }], guard := some (17, true) }) (v := ?_) rfl (by kernel_rfl) (by kernel_rfl) (by kernel_rfl) (fun _ _ _ h => h) (Or.inl ⟨by rfl, ?_⟩) (by trivial) ?_
                      rotate_left
                      (focus (intro w9 hSw; obtain ⟨s9, T9⟩ := hSw; obtain ⟨lt, c0, c1, c2, c3⟩ := s9.cells; obtain ⟨fT0, fT1⟩ := T9.both; obtain ⟨p9, _⟩ := sh_at s9.z.s (j - 1) hk; go_simp <;> with_reducible rfl))
                      try simp only [Act.put, List.setIfInBounds_toArray, List.set_cons_zero, List.set_cons_succ]
                      refine wpAnyH_take (i := 21) (oi := { dst := some 54, op := Op.load 22 (Operand.tmp 53), type := 22, pos := "ref.go:326", after := #[{ on := 20, ground := Ground.data }, { on := 17, ground := Ground.guard }], guard := some (17, true) }) (v := ?_) rfl (by kernel_rfl) (by kernel_rfl) (by kernel_rfl) (fun _ _ _ h => h) (Or.inl ⟨by rfl, ?_⟩) (by trivial) ?_
                      rotate_left
                      (focus (intro w9 hSw; obtain ⟨s9, T9⟩ := hSw; obtain ⟨lt, c0, c1, c2, c3⟩ := s9.cells; obtain ⟨fT0, fT1⟩ := T9.both; obtain ⟨p9, _⟩ := sh_at s9.z.s (j - 1) hk; go_simp <;> with_reducible rfl))
                      try simp only [Act.put, List.setIfInBounds_toArray, List.set_cons_zero, List.set_cons_succ]
                      refine wpAnyH_take (i := 22) (oi := { dst := some 55, op := Op.move (Operand.tmp 3), type := 3, pos := "ref.go:326", after := #[{ on := 17, ground := Ground.guard }], guard := some (17, true) }) (v := ?_) rfl (by kernel_rfl) (by kernel_rfl) (by kernel_rfl) (fun _ _ _ h => h) (Or.inl ⟨by rfl, ?_⟩) (by trivial) ?_
                      rotate_left
                      (focus (intro w9 hSw; obtain ⟨s9, T9⟩ := hSw; obtain ⟨lt, c0, c1, c2, c3⟩ := s9.cells; obtain ⟨fT0, fT1⟩ := T9.both; obtain ⟨p9, _⟩ := sh_at s9.z.s (j - 1) hk; go_simp <;> with_reducible rfl))
                      try simp only [Act.put, List.setIfInBounds_toArray, List.set_cons_zero, List.set_cons_succ]
                      refine wpAnyH_take (i := 23) (oi := { dst := some 56, op := Op.binOp BinOp.sub 3 (Operand.tmp 55) (Operand.const (Value.int IntKind.i64 1)) 3, type := 3, pos := "ref.go:326", after := #[{ on := 22, ground := Ground.data }, { on := 17, ground := Ground.guard }], guard := some (17, true) }) (v := ?_) rfl (by kernel_rfl) (by kernel_rfl) (by kernel_rfl) (fun _ _ _ h => h) (Or.inl ⟨by rfl, ?_⟩) (by trivial) ?_
                      rotate_left
                      (focus (intro w9 hSw; obtain ⟨s9, T9⟩ := hSw; obtain ⟨lt, c0, c1, c2, c3⟩ := s9.cells; obtain ⟨fT0, fT1⟩ := T9.both; obtain ⟨p9, _⟩ := sh_at s9.z.s (j - 1) hk; go_simp <;> with_reducible rfl))
                      try simp only [Act.put, List.setIfInBounds_toArray, List.set_cons_zero, List.set_cons_succ]
                      refine wpAnyH_take (i := 24) (oi := { dst := some 57, op := Op.indexAddr 22 (Operand.tmp 54) (Operand.tmp 56), type := 0, pos := "ref.go:326", after := #[{ on := 21, ground := Ground.data }, { on := 23, ground := Ground.data }, { on := 17, ground := Ground.guard }], guard := some (17, true) }) (v := ?_) rfl (by kernel_rfl) (by kernel_rfl) (by kernel_rfl) (fun _ _ _ h => h) (Or.inl ⟨by rfl, ?_⟩) (by trivial) ?_
                      rotate_left
                      (focus (intro w9 hSw; obtain ⟨s9, T9⟩ := hSw; obtain ⟨lt, c0, c1, c2, c3⟩ := s9.cells; obtain ⟨fT0, fT1⟩ := T9.both; obtain ⟨p9, _⟩ := sh_at s9.z.s (j - 1) hk; go_simp <;> with_reducible rfl))
                      try simp only [Act.put, List.setIfInBounds_toArray, List.set_cons_zero, List.set_cons_succ]
                      refine wpAnyH_take (i := 25) (oi := { dst := some 58, op := Op.fieldAddr 29 (Operand.tmp 57) 0, type := 0, pos := "ref.go:326", after := #[{ on := 24, ground := Ground.data }, { on := 17, ground := Ground.guard }], guard := some (17, true) }) (v := ?_) rfl (by kernel_rfl) (by kernel_rfl) (by kernel_rfl) (fun _ _ _ h => h) (Or.inl ⟨by rfl, ?_⟩) (by trivial) ?_
                      rotate_left
                      (focus (intro w9 hSw; obtain ⟨s9, T9⟩ := hSw; obtain ⟨lt, c0, c1, c2, c3⟩ := s9.cells; obtain ⟨fT0, fT1⟩ := T9.both; obtain ⟨p9, _⟩ := sh_at s9.z.s (j - 1) hk; go_simp <;> with_reducible rfl))
                      try simp only [Act.put, List.setIfInBounds_toArray, List.set_cons_zero, List.set_cons_succ]
                      refine wpAnyH_take (i := 26) (oi := { dst := some 59, op := Op.load 3 (Operand.tmp 58), type := 3, pos := "ref.go:326", after := #[{ on := 25, ground := Ground.data }, { on := 17, ground := Ground.guard }], guard := some (17, true) }) (v := ?_) rfl (by kernel_rfl) (by kernel_rfl) (by kernel_rfl) (fun _ _ _ h => h) (Or.inl ⟨by rfl, ?_⟩) (by trivial) ?_
                      rotate_left
                      (focus (intro w9 hSw; obtain ⟨s9, T9⟩ := hSw; obtain ⟨lt, c0, c1, c2, c3⟩ := s9.cells; obtain ⟨fT0, fT1⟩ := T9.both; obtain ⟨p9, _⟩ := sh_at s9.z.s (j - 1) hk; go_simp <;> with_reducible rfl))
                      try simp only [Act.put, List.setIfInBounds_toArray, List.set_cons_zero, List.set_cons_succ]
                      refine wpAnyH_take (i := 27) (oi := { dst := some 60, op := Op.binOp BinOp.sub 3 (Operand.tmp 52) (Operand.tmp 59) 3, type := 3, pos := "ref.go:326", after := #[{ on := 19, ground := Ground.data }, { on := 26, ground := Ground.data }, { on := 17, ground := Ground.guard }], guard := some (17, true) }) (v := ?_) rfl (by kernel_rfl) (by kernel_rfl) (by kernel_rfl) (fun _ _ _ h => h) (Or.inl ⟨by rfl, ?_⟩) (by trivial) ?_
                      rotate_left
                      (focus (intro w9 hSw; obtain ⟨s9, T9⟩ := hSw; obtain ⟨lt, c0, c1, c2, c3⟩ := s9.cells; obtain ⟨fT0, fT1⟩ := T9.both; obtain ⟨p9, _⟩ := sh_at s9.z.s (j - 1) hk; go_simp <;> with_reducible rfl))
                      try simp only [Act.put, List.setIfInBounds_toArray, List.set_cons_zero, List.set_cons_succ]
                      refine wpAnyH_take (i := 28) (oi := { dst := some 61, op := Op.binOp BinOp.lss 3 (Operand.tmp 60) (Operand.const (Value.int IntKind.i64 200000)) 3, type := 4, pos := "ref.go:326", after := #[{ on := 27, ground := Ground.data }, { on := 17, ground := Ground.guard }], guard := some (17, true) }) (v := ?_) rfl (by kernel_rfl) (by kernel_rfl) (by kernel_rfl) (fun _ _ _ h => h) (Or.inl ⟨by rfl, ?_⟩) (by trivial) ?_
                      rotate_left
                      (focus (intro w9 hSw; obtain ⟨s9, T9⟩ := hSw; obtain ⟨lt, c0, c1, c2, c3⟩ := s9.cells; obtain ⟨fT0, fT1⟩ := T9.both; obtain ⟨p9, _⟩ := sh_at s9.z.s (j - 1) hk; go_simp <;> with_reducible rfl))
                      try simp only [Act.put, List.setIfInBounds_toArray, List.set_cons_zero, List.set_cons_succ]
                      refine wpAnyH_take (i := 29) (oi := { dst := some 62, op := Op.pick (Operand.tmp 50) (Operand.tmp 61) (Operand.const (Value.bool false)), type := 4, pos := "ref.go:326", after := #[{ on := 17, ground := Ground.data }, { on := 28, ground := Ground.data }, { on := 14, ground := Ground.guard }], guard := some (14, false) }) (v := ?_) rfl (by kernel_rfl) (by kernel_rfl) (by kernel_rfl) (fun _ _ _ h => h) (Or.inl ⟨by rfl, ?_⟩) (by trivial) ?_
                      rotate_left
                      (focus (intro w9 hSw; obtain ⟨s9, T9⟩ := hSw; obtain ⟨lt, c0, c1, c2, c3⟩ := s9.cells; obtain ⟨fT0, fT1⟩ := T9.both; obtain ⟨p9, _⟩ := sh_at s9.z.s (j - 1) hk; go_simp <;> with_reducible rfl))
                      try simp only [Act.put, List.setIfInBounds_toArray, List.set_cons_zero, List.set_cons_succ]
                      refine wpAnyH_take (i := 30) (oi := { dst := some 63, op := Op.pick (Operand.tmp 47) (Operand.const (Value.bool true)) (Operand.tmp 62), type := 4, pos := "ref.go:326", after := #[{ on := 14, ground := Ground.data }, { on := 29, ground := Ground.data }], guard := none }) (v := ?_) rfl (by kernel_rfl) (by kernel_rfl) (by kernel_rfl) (fun _ _ _ h => h) (Or.inl ⟨by rfl, ?_⟩) (by trivial) ?_
                      rotate_left
                      (focus (intro w9 hSw; obtain ⟨s9, T9⟩ := hSw; obtain ⟨lt, c0, c1, c2, c3⟩ := s9.cells; obtain ⟨fT0, fT1⟩ := T9.both; obtain ⟨p9, _⟩ := sh_at s9.z.s (j - 1) hk; go_simp <;> with_reducible rfl))
                      try simp only [Act.put, List.setIfInBounds_toArray, List.set_cons_zero, List.set_cons_succ]
                      refine wpAnyH_done (by kernel_rfl) ?_ _
                      go_wp2_with fail
                      go_roundw
                      case rel => exact ⟨j + 1, by omega, by simp, mayUp_next hU hlt q3 ⟨m3, m4⟩ ⟨by omega, by omega⟩ (by omega), s⟩
                      case measure => simp [intOf]; omega
            · have q1t := decide_eq_false q1
              refine wp_region_held_drew (S := fun w9 => St w w9 w.heap.size bs (some ad) c A' c' fr L Y ∧ Two w9 pT (L[j].at_) (L[j].off)) (by kernel_rfl) ⟨s, T⟩ (fun _ => ?_)
              refine wpAnyH_take (i := 0) (oi := { dst := some 33, op := Op.fieldAddr 29 (Operand.tmp 4) 0, type := 0, pos := "ref.go:326", after := #[], guard := none }) (v := ?_) rfl (by kernel_rfl) (by kernel_rfl) (by kernel_rfl) (fun _ _ _ h => h) (Or.inl ⟨by rfl, ?_⟩) (by trivial) ?_
              rotate_left
              (focus (intro w9 hSw; obtain ⟨s9, T9⟩ := hSw; obtain ⟨lt, c0, c1, c2, c3⟩ := s9.cells; obtain ⟨fT0, fT1⟩ := T9.both; go_simp <;> with_reducible rfl))
              try simp only [Act.put, List.setIfInBounds_toArray, List.set_cons_zero, List.set_cons_succ]
              refine wpAnyH_take (i := 1) (oi := { dst := some 34, op := Op.load 3 (Operand.tmp 33), type := 3, pos := "ref.go:326", after := #[{ on := 0, ground := Ground.data }], guard := none }) (v := ?_) rfl (by kernel_rfl) (by kernel_rfl) (by kernel_rfl) (fun _ _ _ h => h) (Or.inl ⟨by rfl, ?_⟩) (by trivial) ?_
              rotate_left
              (focus (intro w9 hSw; obtain ⟨s9, T9⟩ := hSw; obtain ⟨lt, c0, c1, c2, c3⟩ := s9.cells; obtain ⟨fT0, fT1⟩ := T9.both; go_simp <;> with_reducible rfl))
              try simp only [Act.put, List.setIfInBounds_toArray, List.set_cons_zero, List.set_cons_succ]
              refine wpAnyH_ready (rs := [2]) (by kernel_rfl) (by simp) ?_
              refine AllReadyH.cons (o := { dst := some 35, op := Op.call { callee := Callee.value (Operand.func 33), args := #[Operand.tmp 34], argTypes := #[3] }, type := 4, pos := "ref.go:326", after := #[{ on := 1, ground := Ground.data }], guard := none }) rfl (fun K hK => ?_) AllReadyH.nil
              go_simp
              refine (rmay_any _ _).mono ?_
              rintro e w3 ⟨rfl, rfl⟩
              rw [q1t]
              go_wp2_with fail
              refine hK.out _ _ ⟨s, T⟩ (fun _ => ?_)
              clear hK K
              try simp only [Act.put, List.setIfInBounds_toArray, List.set_cons_zero, List.set_cons_succ]
              refine wpAnyH_take (i := 3) (oi := { dst := some 36, op := Op.unOp UnOp.not 4 (Operand.tmp 35), type := 4, pos := "ref.go:326", after := #[{ on := 2, ground := Ground.data }], guard := none }) (v := ?_) rfl (by kernel_rfl) (by kernel_rfl) (by kernel_rfl) (fun _ _ _ h => h) (Or.inl ⟨by rfl, ?_⟩) (by trivial) ?_
              rotate_left
              (focus (intro w9 hSw; obtain ⟨s9, T9⟩ := hSw; obtain ⟨lt, c0, c1, c2, c3⟩ := s9.cells; obtain ⟨fT0, fT1⟩ := T9.both; go_simp <;> with_reducible rfl))
              try simp only [Act.put, List.setIfInBounds_toArray, List.set_cons_zero, List.set_cons_succ]
              refine wpAnyH_take (i := 4) (oi := { dst := some 37, op := Op.move (Operand.tmp 36), type := 4, pos := "ref.go:326", after := #[{ on := 3, ground := Ground.data }, { on := 2, ground := Ground.chain }], guard := none }) (v := ?_) rfl (by kernel_rfl) (by kernel_rfl) (by kernel_rfl) (fun _ _ _ h => h) (Or.inl ⟨by rfl, ?_⟩) (by trivial) ?_
              rotate_left
              (focus (intro w9 hSw; obtain ⟨s9, T9⟩ := hSw; obtain ⟨lt, c0, c1, c2, c3⟩ := s9.cells; obtain ⟨fT0, fT1⟩ := T9.both; go_simp <;> with_reducible rfl))
              try simp only [Act.put, List.setIfInBounds_toArray, List.set_cons_zero, List.set_cons_succ]
              refine wpAnyH_take (i := 5) (oi := { dst := some 38, op := Op.fieldAddr 29 (Operand.tmp 4) 1, type := 0, pos := "ref.go:326", after := #[{ on := 4, ground := Ground.guard }], guard := some (4, false) }) (v := undef) rfl (by kernel_rfl) (by kernel_rfl) (by kernel_rfl) (fun _ _ _ h => h) (Or.inr ⟨by rfl, rfl⟩) (by trivial) ?_
              try simp only [Act.put, List.setIfInBounds_toArray, List.set_cons_zero, List.set_cons_succ]
              refine wpAnyH_take (i := 6) (oi := { dst := some 39, op := Op.load 3 (Operand.tmp 38), type := 3, pos := "ref.go:326", after := #[{ on := 5, ground := Ground.data }, { on := 4, ground := Ground.guard }], guard := some (4, false) }) (v := undef) rfl (by kernel_rfl) (by kernel_rfl) (by kernel_rfl) (fun _ _ _ h => h) (Or.inr ⟨by rfl, rfl⟩) (by trivial) ?_
              try simp only [Act.put, List.setIfInBounds_toArray, List.set_cons_zero, List.set_cons_succ]
              refine wpAnyH_take (i := 7) (oi := { dst := some 40, op := Op.binOp BinOp.lss 3 (Operand.tmp 39) (Operand.const (Value.int IntKind.i64 (-64800))) 3, type := 4, pos := "ref.go:326", after := #[{ on := 6, ground := Ground.data }, { on := 4, ground := Ground.guard }], guard := some (4, false) }) (v := undef) rfl (by kernel_rfl) (by kernel_rfl) (by kernel_rfl) (fun _ _ _ h => h) (Or.inr ⟨by rfl, rfl⟩) (by trivial) ?_
              try simp only [Act.put, List.setIfInBounds_toArray, List.set_cons_zero, List.set_cons_succ]
              refine wpAnyH_take (i := 8) (oi := { dst := some 41, op := Op.pick (Operand.tmp 37) (Operand.const (Value.bool true)) (Operand.tmp 40), type := 4, pos := "ref.go:326", after := #[{ on := 4, ground := Ground.data }, { on := 7, ground := Ground.data }], guard := none }) (v := ?_) rfl (by kernel_rfl) (by kernel_rfl) (by kernel_rfl) (fun _ _ _ h => h) (Or.inl ⟨by rfl, ?_⟩) (by trivial) ?_
              rotate_left
              (focus (intro w9 hSw; obtain ⟨s9, T9⟩ := hSw; obtain ⟨lt, c0, c1, c2, c3⟩ := s9.cells; obtain ⟨fT0, fT1⟩ := T9.both; go_simp <;> with_reducible rfl))
              try simp only [Act.put, List.setIfInBounds_toArray, List.set_cons_zero, List.set_cons_succ]
              refine wpAnyH_take (i := 9) (oi := { dst := some 42, op := Op.move (Operand.tmp 41), type := 4, pos := "ref.go:326", after := #[{ on := 8, ground := Ground.data }, { on := 4, ground := Ground.chain }], guard := none }) (v := ?_) rfl (by kernel_rfl) (by kernel_rfl) (by kernel_rfl) (fun _ _ _ h => h) (Or.inl ⟨by rfl, ?_⟩) (by trivial) ?_
              rotate_left
              (focus (intro w9 hSw; obtain ⟨s9, T9⟩ := hSw; obtain ⟨lt, c0, c1, c2, c3⟩ := s9.cells; obtain ⟨fT0, fT1⟩ := T9.both; go_simp <;> with_reducible rfl))
              try simp only [Act.put, List.setIfInBounds_toArray, List.set_cons_zero, List.set_cons_succ]
              refine wpAnyH_take (i := 10) (oi := { dst := some 43, op := Op.fieldAddr 29 (Operand.tmp 4) 1, type := 0, pos := "ref.go:326", after := #[{ on := 9, ground := Ground.guard }], guard := some (9, false) }) (v := undef) rfl (by kernel_rfl) (by kernel_rfl) (by kernel_rfl) (fun _ _ _ h => h) (Or.inr ⟨by rfl, rfl⟩) (by trivial) ?_
              try simp only [Act.put, List.setIfInBounds_toArray, List.set_cons_zero, List.set_cons_succ]
              refine wpAnyH_take (i := 11) (oi := { dst := some 44, op := Op.load 3 (Operand.tmp 43), type := 3, pos := "ref.go:326", after := #[{ on := 10, ground := Ground.data }, { on := 9, ground := Ground.guard }], guard := some (9, false) }) (v := undef) rfl (by kernel_rfl) (by kernel_rfl) (by kernel_rfl) (fun _ _ _ h => h) (Or.inr ⟨by rfl, rfl⟩) (by trivial) ?_
              try simp only [Act.put, List.setIfInBounds_toArray, List.set_cons_zero, List.set_cons_succ]
              refine wpAnyH_take (i := 12) (oi := { dst := some 45, op := Op.binOp BinOp.gtr 3 (Operand.tmp 44) (Operand.const (Value.int IntKind.i64 64800)) 3, type := 4, pos := "ref.go:326", after := #[{ on := 11, ground := Ground.data }, { on := 9, ground := Ground.guard }], guard := some (9, false) }) (v := undef) rfl (by kernel_rfl) (by kernel_rfl) (by kernel_rfl) (fun _ _ _ h => h) (Or.inr ⟨by rfl, rfl⟩) (by trivial) ?_
              try simp only [Act.put, List.setIfInBounds_toArray, List.set_cons_zero, List.set_cons_succ]
              refine wpAnyH_take (i := 13) (oi := { dst := some 46, op := Op.pick (Operand.tmp 42) (Operand.const (Value.bool true)) (Operand.tmp 45), type := 4, pos := "ref.go:326", after := #[{ on := 9, ground := Ground.data }, { on := 12, ground := Ground.data }], guard := none }) (v := ?_) rfl (by kernel_rfl) (by kernel_rfl) (by kernel_rfl) (fun _ _ _ h => h) (Or.inl ⟨by rfl, ?_⟩) (by trivial) ?_
              rotate_left
              (focus (intro w9 hSw; obtain ⟨s9, T9⟩ := hSw; obtain ⟨lt, c0, c1, c2, c3⟩ := s9.cells; obtain ⟨fT0, fT1⟩ := T9.both; go_simp <;> with_reducible rfl))
              try simp only [Act.put, List.setIfInBounds_toArray, List.set_cons_zero, List.set_cons_succ]
              refine wpAnyH_take (i := 14) (oi := { dst := some 47, op := Op.move (Operand.tmp 46), type := 4, pos := "ref.go:326", after := #[{ on := 13, ground := Ground.data }, { on := 9, ground := Ground.chain }], guard := none }) (v := ?_) rfl (by kernel_rfl) (by kernel_rfl) (by kernel_rfl) (fun _ _ _ h => h) (Or.inl ⟨by rfl, ?_⟩) (by trivial) ?_
              rotate_left
              (focus (intro w9 hSw; obtain ⟨s9, T9⟩ := hSw; obtain ⟨lt, c0, c1, c2, c3⟩ := s9.cells; obtain ⟨fT0, fT1⟩ := T9.both; go_simp <;> with_reducible rfl))
              try simp only [Act.put, List.setIfInBounds_toArray, List.set_cons_zero, List.set_cons_succ]
              refine wpAnyH_take (i := 15) (oi := { dst := some 48, op := Op.move (Operand.tmp 3), type := 3, pos := "ref.go:326", after := #[{ on := 14, ground := Ground.guard }], guard := some (14, false) }) (v := undef) rfl (by kernel_rfl) (by kernel_rfl) (by kernel_rfl) (fun _ _ _ h => h) (Or.inr ⟨by rfl, rfl⟩) (by trivial) ?_
              try simp only [Act.put, List.setIfInBounds_toArray, List.set_cons_zero, List.set_cons_succ]
              refine wpAnyH_take (i := 16) (oi := { dst := some 49, op := Op.binOp BinOp.gtr 3 (Operand.tmp 48) (Operand.const (Value.int IntKind.i64 0)) 3, type := 4, pos := "ref.go:326", after := #[{ on := 15, ground := Ground.data }, { on := 14, ground := Ground.guard }], guard := some (14, false) }) (v := undef) rfl (by kernel_rfl) (by kernel_rfl) (by kernel_rfl) (fun _ _ _ h => h) (Or.inr ⟨by rfl, rfl⟩) (by trivial) ?_
              try simp only [Act.put, List.setIfInBounds_toArray, List.set_cons_zero, List.set_cons_succ]
              refine wpAnyH_take (i := 17) (oi := { dst := some 50, op := Op.move (Operand.tmp 49), type := 4, pos := "ref.go:326", after := #[{ on := 16, ground := Ground.data }, { on := 14, ground := Ground.chain }, { on := 14, ground := Ground.guard }], guard := some (14, false) }) (v := undef) rfl (by kernel_rfl) (by kernel_rfl) (by kernel_rfl) (fun _ _ _ h => h) (Or.inr ⟨by rfl, rfl⟩) (by trivial) ?_
              try simp only [Act.put, List.setIfInBounds_toArray, List.set_cons_zero, List.set_cons_succ]
              refine wpAnyH_take (i := 18) (oi := { dst := some 51, op := Op.fieldAddr 29 (Operand.tmp 4) 0, type := 0, pos := "ref.go:326", after := #[{ on := 17, ground := Ground.guard }], guard := some (17, true) }) (v := undef) rfl (by kernel_rfl) (by kernel_rfl) (by kernel_rfl) (fun _ _ _ h => h) (Or.inr ⟨by rfl, rfl⟩) (by trivial) ?_
              try simp only [Act.put, List.setIfInBounds_toArray, List.set_cons_zero, List.set_cons_succ]
              refine wpAnyH_take (i := 19) (oi := { dst := some 52, op := Op.load 3 (Operand.tmp 51), type := 3, pos := "ref.go:326", after := #[{ on := 18, ground := Ground.data }, { on := 17, ground := Ground.guard }], guard := some (17, true) }) (v := undef) rfl (by kernel_rfl) (by kernel_rfl) (by kernel_rfl) (fun _ _ _ h => h) (Or.inr ⟨by rfl, rfl⟩) (by trivial) ?_
              try simp only [Act.put, List.setIfInBounds_toArray, List.set_cons_zero, List.set_cons_succ]
              refine wpAnyH_take (i := 20) (oi := { dst := some 53, op := Op.fieldAddr 25 (Operand.tmp 1) 1, type := 0, pos := "ref.go:326", after := #[{ on := 17, ground := Ground.guard }], guard := some (17, true) }) (v := undef) rfl (by kernel_rfl) (by kernel_rfl) (by kernel_rfl) (fun _ _ _ h => h) (Or.inr ⟨by rfl, rfl⟩) (by trivial) ?_
              try simp only [Act.put, List.setIfInBounds_toArray, List.set_cons_zero, List.set_cons_succ]
              refine wpAnyH_take (i := 21) (oi := { dst := some 54, op := Op.load 22 (Operand.tmp 53), type := 22, pos := "ref.go:326", after := #[{ on := 20, ground := Ground.data }, { on := 17, ground := Ground.guard }], guard := some (17, true) }) (v := undef) rfl (by kernel_rfl) (by kernel_rfl) (by kernel_rfl) (fun _ _ _ h => h) (Or.inr ⟨by rfl, rfl⟩) (by trivial) ?_
              try simp only [Act.put, List.setIfInBounds_toArray, List.set_cons_zero, List.set_cons_succ]
              refine wpAnyH_take (i := 22) (oi := { dst := some 55, op := Op.move (Operand.tmp 3), type := 3, pos := "ref.go:326", after := #[{ on := 17, ground := Ground.guard }], guard := some (17, true) }) (v := undef) rfl (by kernel_rfl) (by kernel_rfl) (by kernel_rfl) (fun _ _ _ h => h) (Or.inr ⟨by rfl, rfl⟩) (by trivial) ?_
              try simp only [Act.put, List.setIfInBounds_toArray, List.set_cons_zero, List.set_cons_succ]
              refine wpAnyH_take (i := 23) (oi := { dst := some 56, op := Op.binOp BinOp.sub 3 (Operand.tmp 55) (Operand.const (Value.int IntKind.i64 1)) 3, type := 3, pos := "ref.go:326", after := #[{ on := 22, ground := Ground.data }, { on := 17, ground := Ground.guard }], guard := some (17, true) }) (v := undef) rfl (by kernel_rfl) (by kernel_rfl) (by kernel_rfl) (fun _ _ _ h => h) (Or.inr ⟨by rfl, rfl⟩) (by trivial) ?_
              try simp only [Act.put, List.setIfInBounds_toArray, List.set_cons_zero, List.set_cons_succ]
              refine wpAnyH_take (i := 24) (oi := { dst := some 57, op := Op.indexAddr 22 (Operand.tmp 54) (Operand.tmp 56), type := 0, pos := "ref.go:326", after := #[{ on := 21, ground := Ground.data }, { on := 23, ground := Ground.data }, { on := 17, ground := Ground.guard }], guard := some (17, true) }) (v := undef) rfl (by kernel_rfl) (by kernel_rfl) (by kernel_rfl) (fun _ _ _ h => h) (Or.inr ⟨by rfl, rfl⟩) (by trivial) ?_
              try simp only [Act.put, List.setIfInBounds_toArray, List.set_cons_zero, List.set_cons_succ]
              refine wpAnyH_take (i := 25) (oi := { dst := some 58, op := Op.fieldAddr 29 (Operand.tmp 57) 0, type := 0, pos := "ref.go:326", after := #[{ on := 24, ground := Ground.data }, { on := 17, ground := Ground.guard }], guard := some (17, true) }) (v := undef) rfl (by kernel_rfl) (by kernel_rfl) (by kernel_rfl) (fun _ _ _ h => h) (Or.inr ⟨by rfl, rfl⟩) (by trivial) ?_
              try simp only [Act.put, List.setIfInBounds_toArray, List.set_cons_zero, List.set_cons_succ]
              refine wpAnyH_take (i := 26) (oi := { dst := some 59, op := Op.load 3 (Operand.tmp 58), type := 3, pos := "ref.go:326", after := #[{ on := 25, ground := Ground.data }, { on := 17, ground := Ground.guard }], guard := some (17, true) }) (v := undef) rfl (by kernel_rfl) (by kernel_rfl) (by kernel_rfl) (fun _ _ _ h => h) (Or.inr ⟨by rfl, rfl⟩) (by trivial) ?_
              try simp only [Act.put, List.setIfInBounds_toArray, List.set_cons_zero, List.set_cons_succ]
              refine wpAnyH_take (i := 27) (oi := { dst := some 60, op := Op.binOp BinOp.sub 3 (Operand.tmp 52) (Operand.tmp 59) 3, type := 3, pos := "ref.go:326", after := #[{ on := 19, ground := Ground.data }, { on := 26, ground := Ground.data }, { on := 17, ground := Ground.guard }], guard := some (17, true) }) (v := undef) rfl (by kernel_rfl) (by kernel_rfl) (by kernel_rfl) (fun _ _ _ h => h) (Or.inr ⟨by rfl, rfl⟩) (by trivial) ?_
              try simp only [Act.put, List.setIfInBounds_toArray, List.set_cons_zero, List.set_cons_succ]
              refine wpAnyH_take (i := 28) (oi := { dst := some 61, op := Op.binOp BinOp.lss 3 (Operand.tmp 60) (Operand.const (Value.int IntKind.i64 200000)) 3, type := 4, pos := "ref.go:326", after := #[{ on := 27, ground := Ground.data }, { on := 17, ground := Ground.guard }], guard := some (17, true) }) (v := undef) rfl (by kernel_rfl) (by kernel_rfl) (by kernel_rfl) (fun _ _ _ h => h) (Or.inr ⟨by rfl, rfl⟩) (by trivial) ?_
              try simp only [Act.put, List.setIfInBounds_toArray, List.set_cons_zero, List.set_cons_succ]
              refine wpAnyH_take (i := 29) (oi := { dst := some 62, op := Op.pick (Operand.tmp 50) (Operand.tmp 61) (Operand.const (Value.bool false)), type := 4, pos := "ref.go:326", after := #[{ on := 17, ground := Ground.data }, { on := 28, ground := Ground.data }, { on := 14, ground := Ground.guard }], guard := some (14, false) }) (v := undef) rfl (by kernel_rfl) (by kernel_rfl) (by kernel_rfl) (fun _ _ _ h => h) (Or.inr ⟨by rfl, rfl⟩) (by trivial) ?_
              try simp only [Act.put, List.setIfInBounds_toArray, List.set_cons_zero, List.set_cons_succ]
              refine wpAnyH_take (i := 30) (oi := { dst := some 63, op := Op.pick (Operand.tmp 47) (Operand.const (Value.bool true)) (Operand.tmp 62), type := 4, pos := "ref.go:326", after := #[{ on := 14, ground := Ground.data }, { on := 29, ground := Ground.data }], guard := none }) (v := ?_) rfl (by kernel_rfl) (by kernel_rfl) (by kernel_rfl) (fun _ _ _ h => h) (Or.inl ⟨by rfl, ?_⟩) (by trivial) ?_
              rotate_left
              (focus (intro w9 hSw; obtain ⟨s9, T9⟩ := hSw; obtain ⟨lt, c0, c1, c2, c3⟩ := s9.cells; obtain ⟨fT0, fT1⟩ := T9.both; go_simp <;> with_reducible rfl))
              try simp only [Act.put, List.setIfInBounds_toArray, List.set_cons_zero, List.set_cons_succ]
              refine wpAnyH_done (by kernel_rfl) ?_ _
              go_wp2_with fail
              go_ret
              exact ⟨by rw [mayZB_no fun h => q1 (h.sh.up.ok j hlt hlt).1]; rfl, s.b⟩
          · obtain rfl : j = L.length := by omega
            have hM : MayS L := ⟨hU, by omega⟩
            by_cases y0 : Y.length = 0
            · obtain rfl : Y = [] := List.length_eq_zero_iff.mp y0
              clear y0
              by_cases f0 : fr = 0
              · subst f0
                go_wp2_with fail
                go_ret
                exact ⟨by rw [mayZB_yes ⟨hO, hM, .inl ⟨rfl, rfl⟩⟩]; rfl, s.b⟩
              · have t1 : (fr == 0) = false := by simpa using f0
                go_wp2_with fail
                go_ret
                exact ⟨by rw [mayZB_no fun h => by rcases h.yr with h | ⟨a, b, h⟩; · exact f0 h.2
                                                   · cases h.eq]; rfl, s.b⟩
            · by_cases y2 : Y.length = 2
              · obtain ⟨a, b, rfl⟩ : ∃ a b, Y = [a, b] := by
                  match Y, y2 with
                  | [a, b], _ => exact ⟨a, b, rfl⟩
                clear y0 y2
                obtain ⟨ay, rfl, ⟨r0, r1, r2, r3, r4⟩, v0, v1, v2, v3, v4⟩ := yr_at s.z.y
                go_wp2_with fail
                refine (rright_any a _).mono ?_
                rintro e wz ⟨rfl, bb⟩
                replace s := s.step bb
                clear bb lt c0 c1 c2 c3 r0 r1 r2 r3 r4 v0 v1 v2 v3 v4
                obtain ⟨lt, c0, c1, c2, c3⟩ := s.cells
                obtain ⟨ay', hay, ⟨r0, r1, r2, r3, r4⟩, v0, v1, v2, v3, v4⟩ := yr_at s.z.y
                injection hay with hay
                subst hay
                by_cases ka : YrOk a
                · rw [rightB_yes ka]
                  go_wp2_with fail
                  refine (rright_any b _).mono ?_
                  rintro e wz ⟨rfl, bb⟩
                  replace s := s.step bb
                  clear bb lt c0 c1 c2 c3 r0 r1 r2 r3 r4 v0 v1 v2 v3 v4
                  obtain ⟨lt, c0, c1, c2, c3⟩ := s.cells
                  obtain ⟨ay', hay, ⟨r0, r1, r2, r3, r4⟩, v0, v1, v2, v3, v4⟩ := yr_at s.z.y
                  injection hay with hay
                  subst hay
                  by_cases kb : YrOk b
                  · rw [rightB_yes kb]
                    by_cases f1 : fr < 1
                    · have f1t := decide_eq_true f1
                      go_wp2_with fail
                      go_ret
                      exact ⟨by rw [mayZB_no fun h => absurd h.f.fr1 (by omega)]; rfl, s.b⟩
                    · have f1t := decide_eq_false f1
                      by_cases f2 : 9999 < fr
                      · have f2t := decide_eq_true f2
                        go_wp2_with fail
                        go_ret
                        exact ⟨by rw [mayZB_no fun h => absurd h.f.fr2 (by omega)]; rfl, s.b⟩
                      · have f2t := decide_eq_false f2
                        obtain ⟨am1, am2, -⟩ := id ka
                        obtain ⟨bm1, bm2, -⟩ := id kb
                        have zd : IntKind.i64.wrap (b.m - a.m) = b.m - a.m := wi64 (by omega) (by omega)
                        go_wp2_with fail
                        replace s := s.drew
                        refine wp_region_held_drew (S := fun w9 => St w w9 w.heap.size bs A c (some ay) c' fr L [a, b]) (by kernel_rfl) s (fun _ => ?_)
                        refine wpAnyH_take (i := 0) (oi := { dst := some 101, op := Op.fieldAddr 25 (Operand.tmp 1) 2, type := 0, pos := "ref.go:336", after := #[], guard := none }) (v := ?_) rfl (by kernel_rfl) (by kernel_rfl) (by kernel_rfl) (fun _ _ _ h => h) (Or.inl ⟨by rfl, ?_⟩) (by trivial) ?_
                        rotate_left
                        (focus (intro w9 hSw; have s9 := hSw; obtain ⟨ay9, hay9, ⟨r0, r1, r2, r3, r4⟩, v0, v1, v2, v3, v4⟩ := yr_at s9.z.y; injection hay9 with hay9; subst hay9; obtain ⟨lt, c0, c1, c2, c3⟩ := s9.cells; go_simp <;> with_reducible rfl))
                        try simp only [Act.put, List.setIfInBounds_toArray, List.set_cons_zero, List.set_cons_succ]
                        refine wpAnyH_take (i := 1) (oi := { dst := some 102, op := Op.load 23 (Operand.tmp 101), type := 23, pos := "ref.go:336", after := #[{ on := 0, ground := Ground.data }], guard := none }) (v := ?_) rfl (by kernel_rfl) (by kernel_rfl) (by kernel_rfl) (fun _ _ _ h => h) (Or.inl ⟨by rfl, ?_⟩) (by trivial) ?_
                        rotate_left
                        (focus (intro w9 hSw; have s9 := hSw; obtain ⟨ay9, hay9, ⟨r0, r1, r2, r3, r4⟩, v0, v1, v2, v3, v4⟩ := yr_at s9.z.y; injection hay9 with hay9; subst hay9; obtain ⟨lt, c0, c1, c2, c3⟩ := s9.cells; go_simp <;> with_reducible rfl))
                        try simp only [Act.put, List.setIfInBounds_toArray, List.set_cons_zero, List.set_cons_succ]
                        refine wpAnyH_take (i := 2) (oi := { dst := some 103, op := Op.indexAddr 23 (Operand.tmp 102) (Operand.const (Value.int IntKind.i64 1)), type := 0, pos := "ref.go:336", after := #[{ on := 1, ground := Ground.data }], guard := none }) (v := ?_) rfl (by kernel_rfl) (by kernel_rfl) (by kernel_rfl) (fun _ _ _ h => h) (Or.inl ⟨by rfl, ?_⟩) (by trivial) ?_
                        rotate_left
                        (focus (intro w9 hSw; have s9 := hSw; obtain ⟨ay9, hay9, ⟨r0, r1, r2, r3, r4⟩, v0, v1, v2, v3, v4⟩ := yr_at s9.z.y; injection hay9 with hay9; subst hay9; obtain ⟨lt, c0, c1, c2, c3⟩ := s9.cells; go_simp <;> with_reducible rfl))
                        try simp only [Act.put, List.setIfInBounds_toArray, List.set_cons_zero, List.set_cons_succ]
                        refine wpAnyH_take (i := 3) (oi := { dst := some 104, op := Op.fieldAddr 50 (Operand.tmp 103) 0, type := 0, pos := "ref.go:336", after := #[{ on := 2, ground := Ground.data }], guard := none }) (v := ?_) rfl (by kernel_rfl) (by kernel_rfl) (by kernel_rfl) (fun _ _ _ h => h) (Or.inl ⟨by rfl, ?_⟩) (by trivial) ?_
                        rotate_left
                        (focus (intro w9 hSw; have s9 := hSw; obtain ⟨ay9, hay9, ⟨r0, r1, r2, r3, r4⟩, v0, v1, v2, v3, v4⟩ := yr_at s9.z.y; injection hay9 with hay9; subst hay9; obtain ⟨lt, c0, c1, c2, c3⟩ := s9.cells; go_simp <;> with_reducible rfl))
                        try simp only [Act.put, List.setIfInBounds_toArray, List.set_cons_zero, List.set_cons_succ]
                        refine wpAnyH_take (i := 4) (oi := { dst := some 105, op := Op.load 3 (Operand.tmp 104), type := 3, pos := "ref.go:336", after := #[{ on := 3, ground := Ground.data }], guard := none }) (v := ?_) rfl (by kernel_rfl) (by kernel_rfl) (by kernel_rfl) (fun _ _ _ h => h) (Or.inl ⟨by rfl, ?_⟩) (by trivial) ?_
                        rotate_left
                        (focus (intro w9 hSw; have s9 := hSw; obtain ⟨ay9, hay9, ⟨r0, r1, r2, r3, r4⟩, v0, v1, v2, v3, v4⟩ := yr_at s9.z.y; injection hay9 with hay9; subst hay9; obtain ⟨lt, c0, c1, c2, c3⟩ := s9.cells; go_simp <;> with_reducible rfl))
                        try simp only [Act.put, List.setIfInBounds_toArray, List.set_cons_zero, List.set_cons_succ]
                        refine wpAnyH_take (i := 5) (oi := { dst := some 106, op := Op.fieldAddr 25 (Operand.tmp 1) 2, type := 0, pos := "ref.go:336", after := #[], guard := none }) (v := ?_) rfl (by kernel_rfl) (by kernel_rfl) (by kernel_rfl) (fun _ _ _ h => h) (Or.inl ⟨by rfl, ?_⟩) (by trivial) ?_
                        rotate_left
                        (focus (intro w9 hSw; have s9 := hSw; obtain ⟨ay9, hay9, ⟨r0, r1, r2, r3, r4⟩, v0, v1, v2, v3, v4⟩ := yr_at s9.z.y; injection hay9 with hay9; subst hay9; obtain ⟨lt, c0, c1, c2, c3⟩ := s9.cells; go_simp <;> with_reducible rfl))
                        try simp only [Act.put, List.setIfInBounds_toArray, List.set_cons_zero, List.set_cons_succ]
                        refine wpAnyH_take (i := 6) (oi := { dst := some 107, op := Op.load 23 (Operand.tmp 106), type := 23, pos := "ref.go:336", after := #[{ on := 5, ground := Ground.data }], guard := none }) (v := ?_) rfl (by kernel_rfl) (by kernel_rfl) (by kernel_rfl) (fun _ _ _ h => h) (Or.inl ⟨by rfl, ?_⟩) (by trivial) ?_
                        rotate_left
                        (focus (intro w9 hSw; have s9 := hSw; obtain ⟨ay9, hay9, ⟨r0, r1, r2, r3, r4⟩, v0, v1, v2, v3, v4⟩ := yr_at s9.z.y; injection hay9 with hay9; subst hay9; obtain ⟨lt, c0, c1, c2, c3⟩ := s9.cells; go_simp <;> with_reducible rfl))
                        try simp only [Act.put, List.setIfInBounds_toArray, List.set_cons_zero, List.set_cons_succ]
                        refine wpAnyH_take (i := 7) (oi := { dst := some 108, op := Op.indexAddr 23 (Operand.tmp 107) (Operand.const (Value.int IntKind.i64 0)), type := 0, pos := "ref.go:336", after := #[{ on := 6, ground := Ground.data }], guard := none }) (v := ?_) rfl (by kernel_rfl) (by kernel_rfl) (by kernel_rfl) (fun _ _ _ h => h) (Or.inl ⟨by rfl, ?_⟩) (by trivial) ?_
                        rotate_left
                        (focus (intro w9 hSw; have s9 := hSw; obtain ⟨ay9, hay9, ⟨r0, r1, r2, r3, r4⟩, v0, v1, v2, v3, v4⟩ := yr_at s9.z.y; injection hay9 with hay9; subst hay9; obtain ⟨lt, c0, c1, c2, c3⟩ := s9.cells; go_simp <;> with_reducible rfl))
                        try simp only [Act.put, List.setIfInBounds_toArray, List.set_cons_zero, List.set_cons_succ]
                        refine wpAnyH_take (i := 8) (oi := { dst := some 109, op := Op.fieldAddr 50 (Operand.tmp 108) 0, type := 0, pos := "ref.go:336", after := #[{ on := 7, ground := Ground.data }], guard := none }) (v := ?_) rfl (by kernel_rfl) (by kernel_rfl) (by kernel_rfl) (fun _ _ _ h => h) (Or.inl ⟨by rfl, ?_⟩) (by trivial) ?_
                        rotate_left
                        (focus (intro w9 hSw; have s9 := hSw; obtain ⟨ay9, hay9, ⟨r0, r1, r2, r3, r4⟩, v0, v1, v2, v3, v4⟩ := yr_at s9.z.y; injection hay9 with hay9; subst hay9; obtain ⟨lt, c0, c1, c2, c3⟩ := s9.cells; go_simp <;> with_reducible rfl))
                        try simp only [Act.put, List.setIfInBounds_toArray, List.set_cons_zero, List.set_cons_succ]
                        refine wpAnyH_take (i := 9) (oi := { dst := some 110, op := Op.load 3 (Operand.tmp 109), type := 3, pos := "ref.go:336", after := #[{ on := 8, ground := Ground.data }], guard := none }) (v := ?_) rfl (by kernel_rfl) (by kernel_rfl) (by kernel_rfl) (fun _ _ _ h => h) (Or.inl ⟨by rfl, ?_⟩) (by trivial) ?_
                        rotate_left
                        (focus (intro w9 hSw; have s9 := hSw; obtain ⟨ay9, hay9, ⟨r0, r1, r2, r3, r4⟩, v0, v1, v2, v3, v4⟩ := yr_at s9.z.y; injection hay9 with hay9; subst hay9; obtain ⟨lt, c0, c1, c2, c3⟩ := s9.cells; go_simp <;> with_reducible rfl))
                        try simp only [Act.put, List.setIfInBounds_toArray, List.set_cons_zero, List.set_cons_succ]
                        refine wpAnyH_take (i := 10) (oi := { dst := some 111, op := Op.binOp BinOp.sub 3 (Operand.tmp 105) (Operand.tmp 110) 3, type := 3, pos := "ref.go:336", after := #[{ on := 4, ground := Ground.data }, { on := 9, ground := Ground.data }], guard := none }) (v := ?_) rfl (by kernel_rfl) (by kernel_rfl) (by kernel_rfl) (fun _ _ _ h => h) (Or.inl ⟨by rfl, ?_⟩) (by trivial) ?_
                        rotate_left
                        (focus (intro w9 hSw; have s9 := hSw; obtain ⟨ay9, hay9, ⟨r0, r1, r2, r3, r4⟩, v0, v1, v2, v3, v4⟩ := yr_at s9.z.y; injection hay9 with hay9; subst hay9; obtain ⟨lt, c0, c1, c2, c3⟩ := s9.cells; go_simp <;> with_reducible rfl))
                        try simp only [Act.put, List.setIfInBounds_toArray, List.set_cons_zero, List.set_cons_succ]
                        refine wpAnyH_take (i := 11) (oi := { dst := some 5, op := Op.assign (Operand.tmp 111), type := 3, pos := "ref.go:336", after := #[{ on := 10, ground := Ground.data }, { on := 0, ground := Ground.phase }, { on := 1, ground := Ground.phase }, { on := 2, ground := Ground.phase }, { on := 3, ground := Ground.phase }, { on := 4, ground := Ground.phase }, { on := 5, ground := Ground.phase }, { on := 6, ground := Ground.phase }, { on := 7, ground := Ground.phase }, { on := 8, ground := Ground.phase }, { on := 9, ground := Ground.phase }, { on := 10, ground := Ground.phase }], guard := none }) (v := ?_) rfl (by kernel_rfl) (by kernel_rfl) (by kernel_rfl) (fun _ _ _ h => h) (Or.inl ⟨by rfl, ?_⟩) (by trivial) ?_
                        rotate_left
                        (focus (intro w9 hSw; have s9 := hSw; obtain ⟨ay9, hay9, ⟨r0, r1, r2, r3, r4⟩, v0, v1, v2, v3, v4⟩ := yr_at s9.z.y; injection hay9 with hay9; subst hay9; obtain ⟨lt, c0, c1, c2, c3⟩ := s9.cells; go_simp <;> with_reducible rfl))
                        try simp only [Act.put, List.setIfInBounds_toArray, List.set_cons_zero, List.set_cons_succ]
                        refine wpAnyH_done (by kernel_rfl) ?_ _
                        obtain ⟨lt, c0, c1, c2, c3⟩ := s.cells
                        have hF1 := rfst_any fr (by omega) (by omega)
                        have fb := fst_bd fr (by omega) (by omega)
                        by_cases l0 : L.length = 0
                        · obtain rfl : L = [] := List.length_eq_zero_iff.mp l0
                          clear l0
                          by_cases d1 : 2 ≤ b.m - a.m
                          · have d1t := decide_eq_true d1
                            by_cases d2 : b.m - a.m ≤ 10
                            · have d2t := decide_eq_true d2
                              go_wp2_with fail
                              replace s := s.drew
                              refine wp_region_held_drew (S := fun w9 => St w w9 w.heap.size bs A c (some ay) c' fr [] [a, b]) (by kernel_rfl) s (fun _ => ?_)
                              refine wpAnyH_take (i := 0) (oi := { dst := some 115, op := Op.move (Operand.tmp 5), type := 3, pos := "ref.go:338", after := #[], guard := none }) (v := ?_) rfl (by kernel_rfl) (by kernel_rfl) (by kernel_rfl) (fun _ _ _ h => h) (Or.inl ⟨by rfl, ?_⟩) (by trivial) ?_
                              rotate_left
                              (focus (intro w9 hSw; have s9 := hSw; obtain ⟨ay9, hay9, ⟨r0, r1, r2, r3, r4⟩, v0, v1, v2, v3, v4⟩ := yr_at s9.z.y; injection hay9 with hay9; subst hay9; obtain ⟨lt, c0, c1, c2, c3⟩ := s9.cells; go_simp <;> with_reducible rfl))
                              try simp only [Act.put, List.setIfInBounds_toArray, List.set_cons_zero, List.set_cons_succ]
                              refine wpAnyH_take (i := 1) (oi := { dst := some 116, op := Op.binOp BinOp.geq 3 (Operand.tmp 115) (Operand.const (Value.int IntKind.i64 2)) 3, type := 4, pos := "ref.go:338", after := #[{ on := 0, ground := Ground.data }], guard := none }) (v := ?_) rfl (by kernel_rfl) (by kernel_rfl) (by kernel_rfl) (fun _ _ _ h => h) (Or.inl ⟨by rfl, ?_⟩) (by trivial) ?_
                              rotate_left
                              (focus (intro w9 hSw; have s9 := hSw; obtain ⟨ay9, hay9, ⟨r0, r1, r2, r3, r4⟩, v0, v1, v2, v3, v4⟩ := yr_at s9.z.y; injection hay9 with hay9; subst hay9; obtain ⟨lt, c0, c1, c2, c3⟩ := s9.cells; go_simp <;> with_reducible rfl))
                              try simp only [Act.put, List.setIfInBounds_toArray, List.set_cons_zero, List.set_cons_succ]
                              refine wpAnyH_take (i := 2) (oi := { dst := some 117, op := Op.move (Operand.tmp 116), type := 4, pos := "ref.go:338", after := #[{ on := 1, ground := Ground.data }], guard := none }) (v := ?_) rfl (by kernel_rfl) (by kernel_rfl) (by kernel_rfl) (fun _ _ _ h => h) (Or.inl ⟨by rfl, ?_⟩) (by trivial) ?_
                              rotate_left
                              (focus (intro w9 hSw; have s9 := hSw; obtain ⟨ay9, hay9, ⟨r0, r1, r2, r3, r4⟩, v0, v1, v2, v3, v4⟩ := yr_at s9.z.y; injection hay9 with hay9; subst hay9; obtain ⟨lt, c0, c1, c2, c3⟩ := s9.cells; go_simp <;> with_reducible rfl))
                              try simp only [Act.put, List.setIfInBounds_toArray, List.set_cons_zero, List.set_cons_succ]
                              refine wpAnyH_take (i := 3) (oi := { dst := some 118, op := Op.move (Operand.tmp 5), type := 3, pos := "ref.go:338", after := #[{ on := 2, ground := Ground.guard }], guard := some (2, true) }) (v := ?_) rfl (by kernel_rfl) (by kernel_rfl) (by kernel_rfl) (fun _ _ _ h => h) (Or.inl ⟨by rfl, ?_⟩) (by trivial) ?_
                              rotate_left
                              (focus (intro w9 hSw; have s9 := hSw; obtain ⟨ay9, hay9, ⟨r0, r1, r2, r3, r4⟩, v0, v1, v2, v3, v4⟩ := yr_at s9.z.y; injection hay9 with hay9; subst hay9; obtain ⟨lt, c0, c1, c2, c3⟩ := s9.cells; go_simp <;> with_reducible rfl))
                              try simp only [Act.put, List.setIfInBounds_toArray, List.set_cons_zero, List.set_cons_succ]
                              refine wpAnyH_take (i := 4) (oi := { dst := some 119, op := Op.binOp BinOp.leq 3 (Operand.tmp 118) (Operand.const (Value.int IntKind.i64 10)) 3, type := 4, pos := "ref.go:338", after := #[{ on := 3, ground := Ground.data }, { on := 2, ground := Ground.guard }], guard := some (2, true) }) (v := ?_) rfl (by kernel_rfl) (by kernel_rfl) (by kernel_rfl) (fun _ _ _ h => h) (Or.inl ⟨by rfl, ?_⟩) (by trivial) ?_
                              rotate_left
                              (focus (intro w9 hSw; have s9 := hSw; obtain ⟨ay9, hay9, ⟨r0, r1, r2, r3, r4⟩, v0, v1, v2, v3, v4⟩ := yr_at s9.z.y; injection hay9 with hay9; subst hay9; obtain ⟨lt, c0, c1, c2, c3⟩ := s9.cells; go_simp <;> with_reducible rfl))
                              try simp only [Act.put, List.setIfInBounds_toArray, List.set_cons_zero, List.set_cons_succ]
                              refine wpAnyH_take (i := 5) (oi := { dst := some 120, op := Op.pick (Operand.tmp 117) (Operand.tmp 119) (Operand.const (Value.bool false)), type := 4, pos := "ref.go:338", after := #[{ on := 2, ground := Ground.data }, { on := 4, ground := Ground.data }], guard := none }) (v := ?_) rfl (by kernel_rfl) (by kernel_rfl) (by kernel_rfl) (fun _ _ _ h => h) (Or.inl ⟨by rfl, ?_⟩) (by trivial) ?_
                              rotate_left
                              (focus (intro w9 hSw; have s9 := hSw; obtain ⟨ay9, hay9, ⟨r0, r1, r2, r3, r4⟩, v0, v1, v2, v3, v4⟩ := yr_at s9.z.y; injection hay9 with hay9; subst hay9; obtain ⟨lt, c0, c1, c2, c3⟩ := s9.cells; go_simp <;> with_reducible rfl))
                              try simp only [Act.put, List.setIfInBounds_toArray, List.set_cons_zero, List.set_cons_succ]
                              refine wpAnyH_take (i := 6) (oi := { dst := some 121, op := Op.move (Operand.tmp 120), type := 4, pos := "ref.go:338", after := #[{ on := 5, ground := Ground.data }, { on := 2, ground := Ground.chain }], guard := none }) (v := ?_) rfl (by kernel_rfl) (by kernel_rfl) (by kernel_rfl) (fun _ _ _ h => h) (Or.inl ⟨by rfl, ?_⟩) (by trivial) ?_
                              rotate_left
                              (focus (intro w9 hSw; have s9 := hSw; obtain ⟨ay9, hay9, ⟨r0, r1, r2, r3, r4⟩, v0, v1, v2, v3, v4⟩ := yr_at s9.z.y; injection hay9 with hay9; subst hay9; obtain ⟨lt, c0, c1, c2, c3⟩ := s9.cells; go_simp <;> with_reducible rfl))
                              try simp only [Act.put, List.setIfInBounds_toArray, List.set_cons_zero, List.set_cons_succ]
                              refine wpAnyH_take (i := 7) (oi := { dst := some 122, op := Op.move (Operand.tmp 6), type := 3, pos := "ref.go:338", after := #[{ on := 6, ground := Ground.guard }], guard := some (6, true) }) (v := ?_) rfl (by kernel_rfl) (by kernel_rfl) (by kernel_rfl) (fun _ _ _ h => h) (Or.inl ⟨by rfl, ?_⟩) (by trivial) ?_
                              rotate_left
                              (focus (intro w9 hSw; have s9 := hSw; obtain ⟨ay9, hay9, ⟨r0, r1, r2, r3, r4⟩, v0, v1, v2, v3, v4⟩ := yr_at s9.z.y; injection hay9 with hay9; subst hay9; obtain ⟨lt, c0, c1, c2, c3⟩ := s9.cells; go_simp <;> with_reducible rfl))
                              try simp only [Act.put, List.setIfInBounds_toArray, List.set_cons_zero, List.set_cons_succ]
                              refine wpAnyH_take (i := 8) (oi := { dst := some 123, op := Op.binOp BinOp.eql 3 (Operand.tmp 122) (Operand.const (Value.int IntKind.i64 0)) 3, type := 4, pos := "ref.go:338", after := #[{ on := 7, ground := Ground.data }, { on := 6, ground := Ground.guard }], guard := some (6, true) }) (v := ?_) rfl (by kernel_rfl) (by kernel_rfl) (by kernel_rfl) (fun _ _ _ h => h) (Or.inl ⟨by rfl, ?_⟩) (by trivial) ?_
                              rotate_left
                              (focus (intro w9 hSw; have s9 := hSw; obtain ⟨ay9, hay9, ⟨r0, r1, r2, r3, r4⟩, v0, v1, v2, v3, v4⟩ := yr_at s9.z.y; injection hay9 with hay9; subst hay9; obtain ⟨lt, c0, c1, c2, c3⟩ := s9.cells; go_simp <;> with_reducible rfl))
                              try simp only [Act.put, List.setIfInBounds_toArray, List.set_cons_zero, List.set_cons_succ]
                              refine wpAnyH_take (i := 9) (oi := { dst := some 124, op := Op.move (Operand.tmp 123), type := 4, pos := "ref.go:338", after := #[{ on := 8, ground := Ground.data }, { on := 6, ground := Ground.chain }, { on := 6, ground := Ground.guard }], guard := some (6, true) }) (v := ?_) rfl (by kernel_rfl) (by kernel_rfl) (by kernel_rfl) (fun _ _ _ h => h) (Or.inl ⟨by rfl, ?_⟩) (by trivial) ?_
                              rotate_left
                              (focus (intro w9 hSw; have s9 := hSw; obtain ⟨ay9, hay9, ⟨r0, r1, r2, r3, r4⟩, v0, v1, v2, v3, v4⟩ := yr_at s9.z.y; injection hay9 with hay9; subst hay9; obtain ⟨lt, c0, c1, c2, c3⟩ := s9.cells; go_simp <;> with_reducible rfl))
                              try simp only [Act.put, List.setIfInBounds_toArray, List.set_cons_zero, List.set_cons_succ]
                              refine wpAnyH_take (i := 10) (oi := { dst := some 125, op := Op.fieldAddr 25 (Operand.tmp 1) 3, type := 0, pos := "ref.go:338", after := #[{ on := 9, ground := Ground.guard }], guard := some (9, false) }) (v := undef) rfl (by kernel_rfl) (by kernel_rfl) (by kernel_rfl) (fun _ _ _ h => h) (Or.inr ⟨by rfl, rfl⟩) (by trivial) ?_
                              try simp only [Act.put, List.setIfInBounds_toArray, List.set_cons_zero, List.set_cons_succ]
                              refine wpAnyH_take (i := 11) (oi := { dst := some 126, op := Op.load 3 (Operand.tmp 125), type := 3, pos := "ref.go:338", after := #[{ on := 10, ground := Ground.data }, { on := 9, ground := Ground.guard }], guard := some (9, false) }) (v := undef) rfl (by kernel_rfl) (by kernel_rfl) (by kernel_rfl) (fun _ _ _ h => h) (Or.inr ⟨by rfl, rfl⟩) (by trivial) ?_
                              try simp only [Act.put, List.setIfInBounds_toArray, List.set_cons_zero, List.set_cons_succ]
                              refine wpAnyH_take (i := 12) (oi := { dst := some 127, op := Op.call { callee := Callee.value (Operand.func 40), args := #[Operand.tmp 126], argTypes := #[3] }, type := 3, pos := "ref.go:338", after := #[{ on := 11, ground := Ground.data }, { on := 9, ground := Ground.chain }, { on := 9, ground := Ground.guard }], guard := some (9, false) }) (v := undef) rfl (by kernel_rfl) (by kernel_rfl) (by kernel_rfl) (fun _ _ _ h => h) (Or.inr ⟨by rfl, rfl⟩) (by trivial) ?_
                              try simp only [Act.put, List.setIfInBounds_toArray, List.set_cons_zero, List.set_cons_succ]
                              refine wpAnyH_take (i := 13) (oi := { dst := some 128, op := Op.binOp BinOp.mul 3 (Operand.tmp 127) (Operand.const (Value.int IntKind.i64 86400)) 3, type := 3, pos := "ref.go:338", after := #[{ on := 12, ground := Ground.data }, { on := 9, ground := Ground.guard }], guard := some (9, false) }) (v := undef) rfl (by kernel_rfl) (by kernel_rfl) (by kernel_rfl) (fun _ _ _ h => h) (Or.inr ⟨by rfl, rfl⟩) (by trivial) ?_
                              try simp only [Act.put, List.setIfInBounds_toArray, List.set_cons_zero, List.set_cons_succ]
                              refine wpAnyH_take (i := 14) (oi := { dst := some 129, op := Op.fieldAddr 25 (Operand.tmp 1) 1, type := 0, pos := "ref.go:338", after := #[{ on := 9, ground := Ground.guard }], guard := some (9, false) }) (v := undef) rfl (by kernel_rfl) (by kernel_rfl) (by kernel_rfl) (fun _ _ _ h => h) (Or.inr ⟨by rfl, rfl⟩) (by trivial) ?_
                              try simp only [Act.put, List.setIfInBounds_toArray, List.set_cons_zero, List.set_cons_succ]
                              refine wpAnyH_take (i := 15) (oi := { dst := some 130, op := Op.load 22 (Operand.tmp 129), type := 22, pos := "ref.go:338", after := #[{ on := 14, ground := Ground.data }, { on := 9, ground := Ground.guard }], guard := some (9, false) }) (v := undef) rfl (by kernel_rfl) (by kernel_rfl) (by kernel_rfl) (fun _ _ _ h => h) (Or.inr ⟨by rfl, rfl⟩) (by trivial) ?_
                              try simp only [Act.put, List.setIfInBounds_toArray, List.set_cons_zero, List.set_cons_succ]
                              refine wpAnyH_take (i := 16) (oi := { dst := some 131, op := Op.move (Operand.tmp 6), type := 3, pos := "ref.go:338", after := #[{ on := 9, ground := Ground.guard }], guard := some (9, false) }) (v := undef) rfl (by kernel_rfl) (by kernel_rfl) (by kernel_rfl) (fun _ _ _ h => h) (Or.inr ⟨by rfl, rfl⟩) (by trivial) ?_
                              try simp only [Act.put, List.setIfInBounds_toArray, List.set_cons_zero, List.set_cons_succ]
                              refine wpAnyH_take (i := 17) (oi := { dst := some 132, op := Op.binOp BinOp.sub 3 (Operand.tmp 131) (Operand.const (Value.int IntKind.i64 1)) 3, type := 3, pos := "ref.go:338", after := #[{ on := 16, ground := Ground.data }, { on := 9, ground := Ground.guard }], guard := some (9, false) }) (v := undef) rfl (by kernel_rfl) (by kernel_rfl) (by kernel_rfl) (fun _ _ _ h => h) (Or.inr ⟨by rfl, rfl⟩) (by trivial) ?_
                              try simp only [Act.put, List.setIfInBounds_toArray, List.set_cons_zero, List.set_cons_succ]
                              refine wpAnyH_take (i := 18) (oi := { dst := some 133, op := Op.indexAddr 22 (Operand.tmp 130) (Operand.tmp 132), type := 0, pos := "ref.go:338", after := #[{ on := 15, ground := Ground.data }, { on := 17, ground := Ground.data }, { on := 9, ground := Ground.guard }], guard := some (9, false) }) (v := undef) rfl (by kernel_rfl) (by kernel_rfl) (by kernel_rfl) (fun _ _ _ h => h) (Or.inr ⟨by rfl, rfl⟩) (by trivial) ?_
                              try simp only [Act.put, List.setIfInBounds_toArray, List.set_cons_zero, List.set_cons_succ]
                              refine wpAnyH_take (i := 19) (oi := { dst := some 134, op := Op.fieldAddr 29 (Operand.tmp 133) 0, type := 0, pos := "ref.go:338", after := #[{ on := 18, ground := Ground.data }, { on := 9, ground := Ground.guard }], guard := some (9, false) }) (v := undef) rfl (by kernel_rfl) (by kernel_rfl) (by kernel_rfl) (fun _ _ _ h => h) (Or.inr ⟨by rfl, rfl⟩) (by trivial) ?_
                              try simp only [Act.put, List.setIfInBounds_toArray, List.set_cons_zero, List.set_cons_succ]
                              refine wpAnyH_take (i := 20) (oi := { dst := some 135, op := Op.load 3 (Operand.tmp 134), type := 3, pos := "ref.go:338", after := #[{ on := 19, ground := Ground.data }, { on := 9, ground := Ground.guard }], guard := some (9, false) }) (v := undef) rfl (by kernel_rfl) (by kernel_rfl) (by kernel_rfl) (fun _ _ _ h => h) (Or.inr ⟨by rfl, rfl⟩) (by trivial) ?_
                              try simp only [Act.put, List.setIfInBounds_toArray, List.set_cons_zero, List.set_cons_succ]
                              refine wpAnyH_take (i := 21) (oi := { dst := some 136, op := Op.binOp BinOp.sub 3 (Operand.tmp 128) (Operand.tmp 135) 3, type := 3, pos := "ref.go:338", after := #[{ on := 13, ground := Ground.data }, { on := 20, ground := Ground.data }, { on := 9, ground := Ground.guard }], guard := some (9, false) }) (v := undef) rfl (by kernel_rfl) (by kernel_rfl) (by kernel_rfl) (fun _ _ _ h => h) (Or.inr ⟨by rfl, rfl⟩) (by trivial) ?_
                              try simp only [Act.put, List.setIfInBounds_toArray, List.set_cons_zero, List.set_cons_succ]
                              refine wpAnyH_take (i := 22) (oi := { dst := some 137, op := Op.binOp BinOp.geq 3 (Operand.tmp 136) (Operand.const (Value.int IntKind.i64 200000)) 3, type := 4, pos := "ref.go:338", after := #[{ on := 21, ground := Ground.data }, { on := 9, ground := Ground.guard }], guard := some (9, false) }) (v := undef) rfl (by kernel_rfl) (by kernel_rfl) (by kernel_rfl) (fun _ _ _ h => h) (Or.inr ⟨by rfl, rfl⟩) (by trivial) ?_
                              try simp only [Act.put, List.setIfInBounds_toArray, List.set_cons_zero, List.set_cons_succ]
                              refine wpAnyH_take (i := 23) (oi := { dst := some 138, op := Op.pick (Operand.tmp 124) (Operand.const (Value.bool true)) (Operand.tmp 137), type := 4, pos := "ref.go:338", after := #[{ on := 9, ground := Ground.data }, { on := 22, ground := Ground.data }, { on := 6, ground := Ground.guard }], guard := some (6, true) }) (v := ?_) rfl (by kernel_rfl) (by kernel_rfl) (by kernel_rfl) (fun _ _ _ h => h) (Or.inl ⟨by rfl, ?_⟩) (by trivial) ?_
                              rotate_left
                              (focus (intro w9 hSw; have s9 := hSw; obtain ⟨ay9, hay9, ⟨r0, r1, r2, r3, r4⟩, v0, v1, v2, v3, v4⟩ := yr_at s9.z.y; injection hay9 with hay9; subst hay9; obtain ⟨lt, c0, c1, c2, c3⟩ := s9.cells; go_simp <;> with_reducible rfl))
                              try simp only [Act.put, List.setIfInBounds_toArray, List.set_cons_zero, List.set_cons_succ]
                              refine wpAnyH_take (i := 24) (oi := { dst := some 139, op := Op.pick (Operand.tmp 121) (Operand.tmp 138) (Operand.const (Value.bool false)), type := 4, pos := "ref.go:338", after := #[{ on := 6, ground := Ground.data }, { on := 23, ground := Ground.data }], guard := none }) (v := ?_) rfl (by kernel_rfl) (by kernel_rfl) (by kernel_rfl) (fun _ _ _ h => h) (Or.inl ⟨by rfl, ?_⟩) (by trivial) ?_
                              rotate_left
                              (focus (intro w9 hSw; have s9 := hSw; obtain ⟨ay9, hay9, ⟨r0, r1, r2, r3, r4⟩, v0, v1, v2, v3, v4⟩ := yr_at s9.z.y; injection hay9 with hay9; subst hay9; obtain ⟨lt, c0, c1, c2, c3⟩ := s9.cells; go_simp <;> with_reducible rfl))
                              try simp only [Act.put, List.setIfInBounds_toArray, List.set_cons_zero, List.set_cons_succ]
                              refine wpAnyH_take (i := 25) (oi := { dst := some 2, op := Op.assign (Operand.tmp 139), type := 4, pos := "ref.go:338", after := #[{ on := 24, ground := Ground.data }, { on := 12, ground := Ground.chain }, { on := 0, ground := Ground.phase }, { on := 1, ground := Ground.phase }, { on := 2, ground := Ground.phase }, { on := 3, ground := Ground.phase }, { on := 4, ground := Ground.phase }, { on := 5, ground := Ground.phase }, { on := 6, ground := Ground.phase }, { on := 7, ground := Ground.phase }, { on := 8, ground := Ground.phase }, { on := 9, ground := Ground.phase }, { on := 10, ground := Ground.phase }, { on := 11, ground := Ground.phase }, { on := 12, ground := Ground.phase }, { on := 13, ground := Ground.phase }, { on := 14, ground := Ground.phase }, { on := 15, ground := Ground.phase }, { on := 16, ground := Ground.phase }, { on := 17, ground := Ground.phase }, { on := 18, ground := Ground.phase }, { on := 19, ground := Ground.phase }, { on := 20, ground := Ground.phase }, { on := 21, ground := Ground.phase }, { on := 22, ground := Ground.phase }, { on := 23, ground := Ground.phase }, { on := 24, ground := Ground.phase }], guard := none }) (v := ?_) rfl (by kernel_rfl) (by kernel_rfl) (by kernel_rfl) (fun _ _ _ h => h) (Or.inl ⟨by rfl, ?_⟩) (by trivial) ?_
                              rotate_left
                              (focus (intro w9 hSw; have s9 := hSw; obtain ⟨ay9, hay9, ⟨r0, r1, r2, r3, r4⟩, v0, v1, v2, v3, v4⟩ := yr_at s9.z.y; injection hay9 with hay9; subst hay9; obtain ⟨lt, c0, c1, c2, c3⟩ := s9.cells; go_simp <;> with_reducible rfl))
                              try simp only [Act.put, List.setIfInBounds_toArray, List.set_cons_zero, List.set_cons_succ]
                              refine wpAnyH_done (by kernel_rfl) ?_ _
                              go_wp2_with fail
                              go_ret
                              exact ⟨by rw [mayZB_yes ⟨hO, hM, .inr ⟨a, b, rfl, by omega, by omega, ⟨ka, kb, d1, d2⟩, fun k h => absurd h (by simp)⟩⟩]; rfl, s.b⟩
                            · have d2t := decide_eq_false d2
                              go_wp2_with fail
                              replace s := s.drew
                              refine wp_region_held_drew (S := fun w9 => St w w9 w.heap.size bs A c (some ay) c' fr [] [a, b]) (by kernel_rfl) s (fun _ => ?_)
                              refine wpAnyH_take (i := 0) (oi := { dst := some 115, op := Op.move (Operand.tmp 5), type := 3, pos := "ref.go:338", after := #[], guard := none }) (v := ?_) rfl (by kernel_rfl) (by kernel_rfl) (by kernel_rfl) (fun _ _ _ h => h) (Or.inl ⟨by rfl, ?_⟩) (by trivial) ?_
                              rotate_left
                              (focus (intro w9 hSw; have s9 := hSw; obtain ⟨ay9, hay9, ⟨r0, r1, r2, r3, r4⟩, v0, v1, v2, v3, v4⟩ := yr_at s9.z.y; injection hay9 with hay9; subst hay9; obtain ⟨lt, c0, c1, c2, c3⟩ := s9.cells; go_simp <;> with_reducible rfl))
                              try simp only [Act.put, List.setIfInBounds_toArray, List.set_cons_zero, List.set_cons_succ]
                              refine wpAnyH_take (i := 1) (oi := { dst := some 116, op := Op.binOp BinOp.geq 3 (Operand.tmp 115) (Operand.const (Value.int IntKind.i64 2)) 3, type := 4, pos := "ref.go:338", after := #[{ on := 0, ground := Ground.data }], guard := none }) (v := ?_) rfl (by kernel_rfl) (by kernel_rfl) (by kernel_rfl) (fun _ _ _ h => h) (Or.inl ⟨by rfl, ?_⟩) (by trivial) ?_
                              rotate_left
                              (focus (intro w9 hSw; have s9 := hSw; obtain ⟨ay9, hay9, ⟨r0, r1, r2, r3, r4⟩, v0, v1, v2, v3, v4⟩ := yr_at s9.z.y; injection hay9 with hay9; subst hay9; obtain ⟨lt, c0, c1, c2, c3⟩ := s9.cells; go_simp <;> with_reducible rfl))
                              try simp only [Act.put, List.setIfInBounds_toArray, List.set_cons_zero, List.set_cons_succ]
                              refine wpAnyH_take (i := 2) (oi := { dst := some 117, op := Op.move (Operand.tmp 116), type := 4, pos := "ref.go:338", after := #[{ on := 1, ground := Ground.data }], guard := none }) (v := ?_) rfl (by kernel_rfl) (by kernel_rfl) (by kernel_rfl) (fun _ _ _ h => h) (Or.inl ⟨by rfl, ?_⟩) (by trivial) ?_
                              rotate_left
                              (focus (intro w9 hSw; have s9 := hSw; obtain ⟨ay9, hay9, ⟨r0, r1, r2, r3, r4⟩, v0, v1, v2, v3, v4⟩ := yr_at s9.z.y; injection hay9 with hay9; subst hay9; obtain ⟨lt, c0, c1, c2, c3⟩ := s9.cells; go_simp <;> with_reducible rfl))
                              try simp only [Act.put, List.setIfInBounds_toArray, List.set_cons_zero, List.set_cons_succ]
                              refine wpAnyH_take (i := 3) (oi := { dst := some 118, op := Op.move (Operand.tmp 5), type := 3, pos := "ref.go:338", after := #[{ on := 2, ground := Ground.guard }], guard := some (2, true) }) (v := ?_) rfl (by kernel_rfl) (by kernel_rfl) (by kernel_rfl) (fun _ _ _ h => h) (Or.inl ⟨by rfl, ?_⟩) (by trivial) ?_
                              rotate_left
                              (focus (intro w9 hSw; have s9 := hSw; obtain ⟨ay9, hay9, ⟨r0, r1, r2, r3, r4⟩, v0, v1, v2, v3, v4⟩ := yr_at s9.z.y; injection hay9 with hay9; subst hay9; obtain ⟨lt, c0, c1, c2, c3⟩ := s9.cells; go_simp <;> with_reducible rfl))
                              try simp only [Act.put, List.setIfInBounds_toArray, List.set_cons_zero, List.set_cons_succ]
                              refine wpAnyH_take (i := 4) (oi := { dst := some 119, op := Op.binOp BinOp.leq 3 (Operand.tmp 118) (Operand.const (Value.int IntKind.i64 10)) 3, type := 4, pos := "ref.go:338", after := #[{ on := 3, ground := Ground.data }, { on := 2, ground := Ground.guard }], guard := some (2, true) }) (v := ?_) rfl (by kernel_rfl) (by kernel_rfl) (by kernel_rfl) (fun _ _ _ h => h) (Or.inl ⟨by rfl, ?_⟩) (by trivial) ?_
                              rotate_left
                              (focus (intro w9 hSw; have s9 := hSw; obtain ⟨ay9, hay9, ⟨r0, r1, r2, r3, r4⟩, v0, v1, v2, v3, v4⟩ := yr_at s9.z.y; injection hay9 with hay9; subst hay9; obtain ⟨lt, c0, c1, c2, c3⟩ := s9.cells; go_simp <;> with_reducible rfl))
                              try simp only [Act.put, List.setIfInBounds_toArray, List.set_cons_zero, List.set_cons_succ]
                              refine wpAnyH_take (i := 5) (oi := { dst := some 120, op := Op.pick (Operand.tmp 117) (Operand.tmp 119) (Operand.const (Value.bool false)), type := 4, pos := "ref.go:338", after := #[{ on := 2, ground := Ground.data }, { on := 4, ground := Ground.data }], guard := none }) (v := ?_) rfl (by kernel_rfl) (by kernel_rfl) (by kernel_rfl) (fun _ _ _ h => h) (Or.inl ⟨by rfl, ?_⟩) (by trivial) ?_
                              rotate_left
                              (focus (intro w9 hSw; have s9 := hSw; obtain ⟨ay9, hay9, ⟨r0, r1, r2, r3, r4⟩, v0, v1, v2, v3, v4⟩ := yr_at s9.z.y; injection hay9 with hay9; subst hay9; obtain ⟨lt, c0, c1, c2, c3⟩ := s9.cells; go_simp <;> with_reducible rfl))
                              try simp only [Act.put, List.setIfInBounds_toArray, List.set_cons_zero, List.set_cons_succ]
                              refine wpAnyH_take (i := 6) (oi := { dst := some 121, op := Op.move (Operand.tmp 120), type := 4, pos := "ref.go:338", after := #[{ on := 5, ground := Ground.data }, { on := 2, ground := Ground.chain }], guard := none }) (v := ?_) rfl (by kernel_rfl) (by kernel_rfl) (by kernel_rfl) (fun _ _ _ h => h) (Or.inl ⟨by rfl, ?_⟩) (by trivial) ?_
                              rotate_left
                              (focus (intro w9 hSw; have s9 := hSw; obtain ⟨ay9, hay9, ⟨r0, r1, r2, r3, r4⟩, v0, v1, v2, v3, v4⟩ := yr_at s9.z.y; injection hay9 with hay9; subst hay9; obtain ⟨lt, c0, c1, c2, c3⟩ := s9.cells; go_simp <;> with_reducible rfl))
                              try simp only [Act.put, List.setIfInBounds_toArray, List.set_cons_zero, List.set_cons_succ]
                              refine wpAnyH_take (i := 7) (oi := { dst := some 122, op := Op.move (Operand.tmp 6), type := 3, pos := "ref.go:338", after := #[{ on := 6, ground := Ground.guard }], guard := some (6, true) }) (v := undef) rfl (by kernel_rfl) (by kernel_rfl) (by kernel_rfl) (fun _ _ _ h => h) (Or.inr ⟨by rfl, rfl⟩) (by trivial) ?_
                              try simp only [Act.put, List.setIfInBounds_toArray, List.set_cons_zero, List.set_cons_succ]
                              refine wpAnyH_take (i := 8) (oi := { dst := some 123, op := Op.binOp BinOp.eql 3 (Operand.tmp 122) (Operand.const (Value.int IntKind.i64 0)) 3, type := 4, pos := "ref.go:338", after := #[{ on := 7, ground := Ground.data }, { on := 6, ground := Ground.guard }], guard := some (6, true) }) (v := undef) rfl (by kernel_rfl) (by kernel_rfl) (by kernel_rfl) (fun _ _ _ h => h) (Or.inr ⟨by rfl, rfl⟩) (by trivial) ?_
                              try simp only [Act.put, List.setIfInBounds_toArray, List.set_cons_zero, List.set_cons_succ]
                              refine wpAnyH_take (i := 9) (oi := { dst := some 124, op := Op.move (Operand.tmp 123), type := 4, pos := "ref.go:338", after := #[{ on := 8, ground := Ground.data }, { on := 6, ground := Ground.chain }, { on := 6, ground := Ground.guard }], guard := some (6, true) }) (v := undef) rfl (by kernel_rfl) (by kernel_rfl) (by kernel_rfl) (fun _ _ _ h => h) (Or.inr ⟨by rfl, rfl⟩) (by trivial) ?_
                              try simp only [Act.put, List.setIfInBounds_toArray, List.set_cons_zero, List.set_cons_succ]
                              refine wpAnyH_take (i := 10) (oi := { dst := some 125, op := Op.fieldAddr 25 (Operand.tmp 1) 3, type := 0, pos := "ref.go:338", after := #[{ on := 9, ground := Ground.guard }], guard := some (9, false) }) (v := undef) rfl (by kernel_rfl) (by kernel_rfl) (by kernel_rfl) (fun _ _ _ h => h) (Or.inr ⟨by rfl, rfl⟩) (by trivial) ?_
                              try simp only [Act.put, List.setIfInBounds_toArray, List.set_cons_zero, List.set_cons_succ]
                              refine wpAnyH_take (i := 11) (oi := { dst := some 126, op := Op.load 3 (Operand.tmp 125), type := 3, pos := "ref.go:338", after := #[{ on := 10, ground := Ground.data }, { on := 9, ground := Ground.guard }], guard := some (9, false) }) (v := undef) rfl (by kernel_rfl) (by kernel_rfl) (by kernel_rfl) (fun _ _ _ h => h) (Or.inr ⟨by rfl, rfl⟩) (by trivial) ?_
                              try simp only [Act.put, List.setIfInBounds_toArray, List.set_cons_zero, List.set_cons_succ]
                              refine wpAnyH_take (i := 12) (oi := { dst := some 127, op := Op.call { callee := Callee.value (Operand.func 40), args := #[Operand.tmp 126], argTypes := #[3] }, type := 3, pos := "ref.go:338", after := #[{ on := 11, ground := Ground.data }, { on := 9, ground := Ground.chain }, { on := 9, ground := Ground.guard }], guard := some (9, false) }) (v := undef) rfl (by kernel_rfl) (by kernel_rfl) (by kernel_rfl) (fun _ _ _ h => h) (Or.inr ⟨by rfl, rfl⟩) (by trivial) ?_
                              try simp only [Act.put, List.setIfInBounds_toArray, List.set_cons_zero, List.set_cons_succ]
                              refine wpAnyH_take (i := 13) (oi := { dst := some 128, op := Op.binOp BinOp.mul 3 (Operand.tmp 127) (Operand.const (Value.int IntKind.i64 86400)) 3, type := 3, pos := "ref.go:338", after := #[{ on := 12, ground := Ground.data }, { on := 9, ground := Ground.guard }], guard := some (9, false) }) (v := undef) rfl (by kernel_rfl) (by kernel_rfl) (by kernel_rfl) (fun _ _ _ h => h) (Or.inr ⟨by rfl, rfl⟩) (by trivial) ?_
                              try simp only [Act.put, List.setIfInBounds_toArray, List.set_cons_zero, List.set_cons_succ]
                              refine wpAnyH_take (i := 14) (oi := { dst := some 129, op := Op.fieldAddr 25 (Operand.tmp 1) 1, type := 0, pos := "ref.go:338", after := #[{ on := 9, ground := Ground.guard }], guard := some (9, false) }) (v := undef) rfl (by kernel_rfl) (by kernel_rfl) (by kernel_rfl) (fun _ _ _ h => h) (Or.inr ⟨by rfl, rfl⟩) (by trivial) ?_
                              try simp only [Act.put, List.setIfInBounds_toArray, List.set_cons_zero, List.set_cons_succ]
                              refine wpAnyH_take (i := 15) (oi := { dst := some 130, op := Op.load 22 (Operand.tmp 129), type := 22, pos := "ref.go:338", after := #[{ on := 14, ground := Ground.data }, { on := 9, ground := Ground.guard }], guard := some (9, false) }) (v := undef) rfl (by kernel_rfl) (by kernel_rfl) (by kernel_rfl) (fun _ _ _ h => h) (Or.inr ⟨by rfl, rfl⟩) (by trivial) ?_
                              try simp only [Act.put, List.setIfInBounds_toArray, List.set_cons_zero, List.set_cons_succ]
                              refine wpAnyH_take (i := 16) (oi := { dst := some 131, op := Op.move (Operand.tmp 6), type := 3, pos := "ref.go:338", after := #[{ on := 9, ground := Ground.guard }], guard := some (9, false) }) (v := undef) rfl (by kernel_rfl) (by kernel_rfl) (by kernel_rfl) (fun _ _ _ h => h) (Or.inr ⟨by rfl, rfl⟩) (by trivial) ?_
                              try simp only [Act.put, List.setIfInBounds_toArray, List.set_cons_zero, List.set_cons_succ]
                              refine wpAnyH_take (i := 17) (oi := { dst := some 132, op := Op.binOp BinOp.sub 3 (Operand.tmp 131) (Operand.const (Value.int IntKind.i64 1)) 3, type := 3, pos := "ref.go:338", after := #[{ on := 16, ground := Ground.data }, { on := 9, ground := Ground.guard }], guard := some (9, false) }) (v := undef) rfl (by kernel_rfl) (by kernel_rfl) (by kernel_rfl) (fun _ _ _ h => h) (Or.inr ⟨by rfl, rfl⟩) (by trivial) ?_
                              try simp only [Act.put, List.setIfInBounds_toArray, List.set_cons_zero, List.set_cons_succ]
                              refine wpAnyH_take (i := 18) (oi := { dst := some 133, op := Op.indexAddr 22 (Operand.tmp 130) (Operand.tmp 132), type := 0, pos := "ref.go:338", after := #[{ on := 15, ground := Ground.data }, { on := 17, ground := Ground.data }, { on := 9, ground := Ground.guard }], guard := some (9, false) }) (v := undef) rfl (by kernel_rfl) (by kernel_rfl) (by kernel_rfl) (fun _ _ _ h => h) (Or.inr ⟨by rfl, rfl⟩) (by trivial) ?_
                              try simp only [Act.put, List.setIfInBounds_toArray, List.set_cons_zero, List.set_cons_succ]
                              refine wpAnyH_take (i := 19) (oi := { dst := some 134, op := Op.fieldAddr 29 (Operand.tmp 133) 0, type := 0, pos := "ref.go:338", after := #[{ on := 18, ground := Ground.data }, { on := 9, ground := Ground.guard }], guard := some (9, false) }) (v := undef) rfl (by kernel_rfl) (by kernel_rfl) (by kernel_rfl) (fun _ _ _ h => h) (Or.inr ⟨by rfl, rfl⟩) (by trivial) ?_
                              try simp only [Act.put, List.setIfInBounds_toArray, List.set_cons_zero, List.set_cons_succ]
                              refine wpAnyH_take (i := 20) (oi := { dst := some 135, op := Op.load 3 (Operand.tmp 134), type := 3, pos := "ref.go:338", after := #[{ on := 19, ground := Ground.data }, { on := 9, ground := Ground.guard }], guard := some (9, false) }) (v := undef) rfl (by kernel_rfl) (by kernel_rfl) (by kernel_rfl) (fun _ _ _ h => h) (Or.inr ⟨by rfl, rfl⟩) (by trivial) ?_
                              try simp only [Act.put, List.setIfInBounds_toArray, List.set_cons_zero, List.set_cons_succ]
                              refine wpAnyH_take (i := 21) (oi := { dst := some 136, op := Op.binOp BinOp.sub 3 (Operand.tmp 128) (Operand.tmp 135) 3, type := 3, pos := "ref.go:338", after := #[{ on := 13, ground := Ground.data }, { on := 20, ground := Ground.data }, { on := 9, ground := Ground.guard }], guard := some (9, false) }) (v := undef) rfl (by kernel_rfl) (by kernel_rfl) (by kernel_rfl) (fun _ _ _ h => h) (Or.inr ⟨by rfl, rfl⟩) (by trivial) ?_
                              try simp only [Act.put, List.setIfInBounds_toArray, List.set_cons_zero, List.set_cons_succ]
                              refine wpAnyH_take (i := 22) (oi := { dst := some 137, op := Op.binOp BinOp.geq 3 (Operand.tmp 136) (Operand.const (Value.int IntKind.i64 200000)) 3, type := 4, pos := "ref.go:338", after := #[{ on := 21, ground := Ground.data }, { on := 9, ground := Ground.guard }], guard := some (9, false) }) (v := undef) rfl (by kernel_rfl) (by kernel_rfl) (by kernel_rfl) (fun _ _ _ h => h) (Or.inr ⟨by rfl, rfl⟩) (by trivial) ?_
                              try simp only [Act.put, List.setIfInBounds_toArray, List.set_cons_zero, List.set_cons_succ]
                              refine wpAnyH_take (i := 23) (oi := { dst := some 138, op := Op.pick (Operand.tmp 124) (Operand.const (Value.bool true)) (Operand.tmp 137), type := 4, pos := "ref.go:338", after := #[{ on := 9, ground := Ground.data }, { on := 22, ground := Ground.data }, { on := 6, ground := Ground.guard }], guard := some (6, true) }) (v := undef) rfl (by kernel_rfl) (by kernel_rfl) (by kernel_rfl) (fun _ _ _ h => h) (Or.inr ⟨by rfl, rfl⟩) (by trivial) ?_
                              try simp only [Act.put, List.setIfInBounds_toArray, List.set_cons_zero, List.set_cons_succ]
                              refine wpAnyH_take (i := 24) (oi := { dst := some 139, op := Op.pick (Operand.tmp 121) (Operand.tmp 138) (Operand.const (Value.bool false)), type := 4, pos := "ref.go:338", after := #[{ on := 6, ground := Ground.data }, { on := 23, ground := Ground.data }], guard := none }) (v := ?_) rfl (by kernel_rfl) (by kernel_rfl) (by kernel_rfl) (fun _ _ _ h => h) (Or.inl ⟨by rfl, ?_⟩) (by trivial) ?_
                              rotate_left
                              (focus (intro w9 hSw; have s9 := hSw; obtain ⟨ay9, hay9, ⟨r0, r1, r2, r3, r4⟩, v0, v1, v2, v3, v4⟩ := yr_at s9.z.y; injection hay9 with hay9; subst hay9; obtain ⟨lt, c0, c1, c2, c3⟩ := s9.cells; go_simp <;> with_reducible rfl))
                              try simp only [Act.put, List.setIfInBounds_toArray, List.set_cons_zero, List.set_cons_succ]
                              refine wpAnyH_take (i := 25) (oi := { dst := some 2, op := Op.assign (Operand.tmp 139), type := 4, pos := "ref.go:338", after := #[{ on := 24, ground := Ground.data }, { on := 12, ground := Ground.chain }, { on := 0, ground := Ground.phase }, { on := 1, ground := Ground.phase }, { on := 2, ground := Ground.phase }, { on := 3, ground := Ground.phase }, { on := 4, ground := Ground.phase }, { on := 5, ground := Ground.phase }, { on := 6, ground := Ground.phase }, { on := 7, ground := Ground.phase }, { on := 8, ground := Ground.phase }, { on := 9, ground := Ground.phase }, { on := 10, ground := Ground.phase }, { on := 11, ground := Ground.phase }, { on := 12, ground := Ground.phase }, { on := 13, ground := Ground.phase }, { on := 14, ground := Ground.phase }, { on := 15, ground := Ground.phase }, { on := 16, ground := Ground.phase }, { on := 17, ground := Ground.phase }, { on := 18, ground := Ground.phase }, { on := 19, ground := Ground.phase }, { on := 20, ground := Ground.phase }, { on := 21, ground := Ground.phase }, { on := 22, ground := Ground.phase }, { on := 23, ground := Ground.phase }, { on := 24, ground := Ground.phase }], guard := none }) (v := ?_) rfl (by kernel_rfl) (by kernel_rfl) (by kernel_rfl) (fun _ _ _ h => h) (Or.inl ⟨by rfl, ?_⟩) (by trivial) ?_
                              rotate_left
                              (focus (intro w9 hSw; have s9 := hSw; obtain ⟨ay9, hay9, ⟨r0, r1, r2, r3, r4⟩, v0, v1, v2, v3, v4⟩ := yr_at s9.z.y; injection hay9 with hay9; subst hay9; obtain ⟨lt, c0, c1, c2, c3⟩ := s9.cells; go_simp <;> with_reducible rfl))
                              try simp only [Act.put, List.setIfInBounds_toArray, List.set_cons_zero, List.set_cons_succ]
                              refine wpAnyH_done (by kernel_rfl) ?_ _
                              go_wp2_with fail
                              go_ret
                              exact ⟨by rw [mayZB_no fun h => absurd h.f.y.hi (by omega)]; rfl, s.b⟩
                          · have d1t := decide_eq_false d1
                            go_wp2_with fail
                            replace s := s.drew
                            refine wp_region_held_drew (S := fun w9 => St w w9 w.heap.size bs A c (some ay) c' fr [] [a, b]) (by kernel_rfl) s (fun _ => ?_)
                            refine wpAnyH_take (i := 0) (oi := { dst := some 115, op := Op.move (Operand.tmp 5), type := 3, pos := "ref.go:338", after := #[], guard := none }) (v := ?_) rfl (by kernel_rfl) (by kernel_rfl) (by kernel_rfl) (fun _ _ _ h => h) (Or.inl ⟨by rfl, ?_⟩) (by trivial) ?_
                            rotate_left
                            (focus (intro w9 hSw; have s9 := hSw; obtain ⟨ay9, hay9, ⟨r0, r1, r2, r3, r4⟩, v0, v1, v2, v3, v4⟩ := yr_at s9.z.y; injection hay9 with hay9; subst hay9; obtain ⟨lt, c0, c1, c2, c3⟩ := s9.cells; go_simp <;> with_reducible rfl))
                            try simp only [Act.put, List.setIfInBounds_toArray, List.set_cons_zero, List.set_cons_succ]
                            refine wpAnyH_take (i := 1) (oi := { dst := some 116, op := Op.binOp BinOp.geq 3 (Operand.tmp 115) (Operand.const (Value.int IntKind.i64 2)) 3, type := 4, pos := "ref.go:338", after := #[{ on := 0, ground := Ground.data }], guard := none }) (v := ?_) rfl (by kernel_rfl) (by kernel_rfl) (by kernel_rfl) (fun _ _ _ h => h) (Or.inl ⟨by rfl, ?_⟩) (by trivial) ?_
                            rotate_left
                            (focus (intro w9 hSw; have s9 := hSw; obtain ⟨ay9, hay9, ⟨r0, r1, r2, r3, r4⟩, v0, v1, v2, v3, v4⟩ := yr_at s9.z.y; injection hay9 with hay9; subst hay9; obtain ⟨lt, c0, c1, c2, c3⟩ := s9.cells; go_simp <;> with_reducible rfl))
                            try simp only [Act.put, List.setIfInBounds_toArray, List.set_cons_zero, List.set_cons_succ]
                            refine wpAnyH_take (i := 2) (oi := { dst := some 117, op := Op.move (Operand.tmp 116), type := 4, pos := "ref.go:338", after := #[{ on := 1, ground := Ground.data }], guard := none }) (v := ?_) rfl (by kernel_rfl) (by kernel_rfl) (by kernel_rfl) (fun _ _ _ h => h) (Or.inl ⟨by rfl, ?_⟩) (by trivial) ?_
                            rotate_left
                            (focus (intro w9 hSw; have s9 := hSw; obtain ⟨ay9, hay9, ⟨r0, r1, r2, r3, r4⟩, v0, v1, v2, v3, v4⟩ := yr_at s9.z.y; injection hay9 with hay9; subst hay9; obtain ⟨lt, c0, c1, c2, c3⟩ := s9.cells; go_simp <;> with_reducible rfl))
                            try simp only [Act.put, List.setIfInBounds_toArray, List.set_cons_zero, List.set_cons_succ]
                            refine wpAnyH_take (i := 3) (oi := { dst := some 118, op := Op.move (Operand.tmp 5), type := 3, pos := "ref.go:338", after := #[{ on := 2, ground := Ground.guard }], guard := some (2, true) }) (v := undef) rfl (by kernel_rfl) (by kernel_rfl) (by kernel_rfl) (fun _ _ _ h => h) (Or.inr ⟨by rfl, rfl⟩) (by trivial) ?_
                            try simp only [Act.put, List.setIfInBounds_toArray, List.set_cons_zero, List.set_cons_succ]
                            refine wpAnyH_take (i := 4) (oi := { dst := some 119, op := Op.binOp BinOp.leq 3 (Operand.tmp 118) (Operand.const (Value.int IntKind.i64 10)) 3, type := 4, pos := "ref.go:338", after := #[{ on := 3, ground := Ground.data }, { on := 2, ground := Ground.guard }], guard := some (2, true) }) (v := undef) rfl (by kernel_rfl) (by kernel_rfl) (by kernel_rfl) (fun _ _ _ h => h) (Or.inr ⟨by rfl, rfl⟩) (by trivial) ?_
                            try simp only [Act.put, List.setIfInBounds_toArray, List.set_cons_zero, List.set_cons_succ]
                            refine wpAnyH_take (i := 5) (oi := { dst := some 120, op := Op.pick (Operand.tmp 117) (Operand.tmp 119) (Operand.const (Value.bool false)), type := 4, pos := "ref.go:338", after := #[{ on := 2, ground := Ground.data }, { on := 4, ground := Ground.data }], guard := none }) (v := ?_) rfl (by kernel_rfl) (by kernel_rfl) (by kernel_rfl) (fun _ _ _ h => h) (Or.inl ⟨by rfl, ?_⟩) (by trivial) ?_
                            rotate_left
                            (focus (intro w9 hSw; have s9 := hSw; obtain ⟨ay9, hay9, ⟨r0, r1, r2, r3, r4⟩, v0, v1, v2, v3, v4⟩ := yr_at s9.z.y; injection hay9 with hay9; subst hay9; obtain ⟨lt, c0, c1, c2, c3⟩ := s9.cells; go_simp <;> with_reducible rfl))
                            try simp only [Act.put, List.setIfInBounds_toArray, List.set_cons_zero, List.set_cons_succ]
                            refine wpAnyH_take (i := 6) (oi := { dst := some 121, op := Op.move (Operand.tmp 120), type := 4, pos := "ref.go:338", after := #[{ on := 5, ground := Ground.data }, { on := 2, ground := Ground.chain }], guard := none }) (v := ?_) rfl (by kernel_rfl) (by kernel_rfl) (by kernel_rfl) (fun _ _ _ h => h) (Or.inl ⟨by rfl, ?_⟩) (by trivial) ?_
                            rotate_left
                            (focus (intro w9 hSw; have s9 := hSw; obtain ⟨ay9, hay9, ⟨r0, r1, r2, r3, r4⟩, v0, v1, v2, v3, v4⟩ := yr_at s9.z.y; injection hay9 with hay9; subst hay9; obtain ⟨lt, c0, c1, c2, c3⟩ := s9.cells; go_simp <;> with_reducible rfl))
                            try simp only [Act.put, List.setIfInBounds_toArray, List.set_cons_zero, List.set_cons_succ]
                            refine wpAnyH_take (i := 7) (oi := { dst := some 122, op := Op.move (Operand.tmp 6), type := 3, pos := "ref.go:338", after := #[{ on := 6, ground := Ground.guard }], guard := some (6, true) }) (v := undef) rfl (by kernel_rfl) (by kernel_rfl) (by kernel_rfl) (fun _ _ _ h => h) (Or.inr ⟨by rfl, rfl⟩) (by trivial) ?_
                            try simp only [Act.put, List.setIfInBounds_toArray, List.set_cons_zero, List.set_cons_succ]
                            refine wpAnyH_take (i := 8) (oi := { dst := some 123, op := Op.binOp BinOp.eql 3 (Operand.tmp 122) (Operand.const (Value.int IntKind.i64 0)) 3, type := 4, pos := "ref.go:338", after := #[{ on := 7, ground := Ground.data }, { on := 6, ground := Ground.guard }], guard := some (6, true) }) (v := undef) rfl (by kernel_rfl) (by kernel_rfl) (by kernel_rfl) (fun _ _ _ h => h) (Or.inr ⟨by rfl, rfl⟩) (by trivial) ?_
                            try simp only [Act.put, List.setIfInBounds_toArray, List.set_cons_zero, List.set_cons_succ]
                            refine wpAnyH_take (i := 9) (oi := { dst := some 124, op := Op.move (Operand.tmp 123), type := 4, pos := "ref.go:338", after := #[{ on := 8, ground := Ground.data }, { on := 6, ground := Ground.chain }, { on := 6, ground := Ground.guard }], guard := some (6, true) }) (v := undef) rfl (by kernel_rfl) (by kernel_rfl) (by kernel_rfl) (fun _ _ _ h => h) (Or.inr ⟨by rfl, rfl⟩) (by trivial) ?_
                            try simp only [Act.put, List.setIfInBounds_toArray, List.set_cons_zero, List.set_cons_succ]
                            refine wpAnyH_take (i := 10) (oi := { dst := some 125, op := Op.fieldAddr 25 (Operand.tmp 1) 3, type := 0, pos := "ref.go:338", after := #[{ on := 9, ground := Ground.guard }], guard := some (9, false) }) (v := undef) rfl (by kernel_rfl) (by kernel_rfl) (by kernel_rfl) (fun _ _ _ h => h) (Or.inr ⟨by rfl, rfl⟩) (by trivial) ?_
                            try simp only [Act.put, List.setIfInBounds_toArray, List.set_cons_zero, List.set_cons_succ]
                            refine wpAnyH_take (i := 11) (oi := { dst := some 126, op := Op.load 3 (Operand.tmp 125), type := 3, pos := "ref.go:338", after := #[{ on := 10, ground := Ground.data }, { on := 9, ground := Ground.guard }], guard := some (9, false) }) (v := undef) rfl (by kernel_rfl) (by kernel_rfl) (by kernel_rfl) (fun _ _ _ h => h) (Or.inr ⟨by rfl, rfl⟩) (by trivial) ?_
                            try simp only [Act.put, List.setIfInBounds_toArray, List.set_cons_zero, List.set_cons_succ]
                            refine wpAnyH_take (i := 12) (oi := { dst := some 127, op := Op.call { callee := Callee.value (Operand.func 40), args := #[Operand.tmp 126], argTypes := #[3] }, type := 3, pos := "ref.go:338", after := #[{ on := 11, ground := Ground.data }, { on := 9, ground := Ground.chain }, { on := 9, ground := Ground.guard }], guard := some (9, false) }) (v := undef) rfl (by kernel_rfl) (by kernel_rfl) (by kernel_rfl) (fun _ _ _ h => h) (Or.inr ⟨by rfl, rfl⟩) (by trivial) ?_
                            try simp only [Act.put, List.setIfInBounds_toArray, List.set_cons_zero, List.set_cons_succ]
                            refine wpAnyH_take (i := 13) (oi := { dst := some 128, op := Op.binOp BinOp.mul 3 (Operand.tmp 127) (Operand.const (Value.int IntKind.i64 86400)) 3, type := 3, pos := "ref.go:338", after := #[{ on := 12, ground := Ground.data }, { on := 9, ground := Ground.guard }], guard := some (9, false) }) (v := undef) rfl (by kernel_rfl) (by kernel_rfl) (by kernel_rfl) (fun _ _ _ h => h) (Or.inr ⟨by rfl, rfl⟩) (by trivial) ?_
                            try simp only [Act.put, List.setIfInBounds_toArray, List.set_cons_zero, List.set_cons_succ]
                            refine wpAnyH_take (i := 14) (oi := { dst := some 129, op := Op.fieldAddr 25 (Operand.tmp 1) 1, type := 0, pos := "ref.go:338", after := #[{ on := 9, ground := Ground.guard }], guard := some (9, false) }) (v := undef) rfl (by kernel_rfl) (by kernel_rfl) (by kernel_rfl) (fun _ _ _ h => h) (Or.inr ⟨by rfl, rfl⟩) (by trivial) ?_
                            try simp only [Act.put, List.setIfInBounds_toArray, List.set_cons_zero, List.set_cons_succ]
                            refine wpAnyH_take (i := 15) (oi := { dst := some 130, op := Op.load 22 (Operand.tmp 129), type := 22, pos := "ref.go:338", after := #[{ on := 14, ground := Ground.data }, { on := 9, ground := Ground.guard }], guard := some (9, false) }) (v := undef) rfl (by kernel_rfl) (by kernel_rfl) (by kernel_rfl) (fun _ _ _ h => h) (Or.inr ⟨by rfl, rfl⟩) (by trivial) ?_
                            try simp only [Act.put, List.setIfInBounds_toArray, List.set_cons_zero, List.set_cons_succ]
                            refine wpAnyH_take (i := 16) (oi := { dst := some 131, op := Op.move (Operand.tmp 6), type := 3, pos := "ref.go:338", after := #[{ on := 9, ground := Ground.guard }], guard := some (9, false) }) (v := undef) rfl (by kernel_rfl) (by kernel_rfl) (by kernel_rfl) (fun _ _ _ h => h) (Or.inr ⟨by rfl, rfl⟩) (by trivial) ?_
                            try simp only [Act.put, List.setIfInBounds_toArray, List.set_cons_zero, List.set_cons_succ]
                            refine wpAnyH_take (i := 17) (oi := { dst := some 132, op := Op.binOp BinOp.sub 3 (Operand.tmp 131) (Operand.const (Value.int IntKind.i64 1)) 3, type := 3, pos := "ref.go:338", after := #[{ on := 16, ground := Ground.data }, { on := 9, ground := Ground.guard }], guard := some (9, false) }) (v := undef) rfl (by kernel_rfl) (by kernel_rfl) (by kernel_rfl) (fun _ _ _ h => h) (Or.inr ⟨by rfl, rfl⟩) (by trivial) ?_
                            try simp only [Act.put, List.setIfInBounds_toArray, List.set_cons_zero, List.set_cons_succ]
                            refine wpAnyH_take (i := 18) (oi := { dst := some 133, op := Op.indexAddr 22 (Operand.tmp 130) (Operand.tmp 132), type := 0, pos := "ref.go:338", after := #[{ on := 15, ground := Ground.data }, { on := 17, ground := Ground.data }, { on := 9, ground := Ground.guard }], guard := some (9, false) }) (v := undef) rfl (by kernel_rfl) (by kernel_rfl) (by kernel_rfl) (fun _ _ _ h => h) (Or.inr ⟨by rfl, rfl⟩) (by trivial) ?_
                            try simp only [Act.put, List.setIfInBounds_toArray, List.set_cons_zero, List.set_cons_succ]
                            refine wpAnyH_take (i := 19) (oi := { dst := some 134, op := Op.fieldAddr 29 (Operand.tmp 133) 0, type := 0, pos := "ref.go:338", after := #[{ on := 18, ground := Ground.data }, { on := 9, ground := Ground.guard }], guard := some (9, false) }) (v := undef) rfl (by kernel_rfl) (by kernel_rfl) (by kernel_rfl) (fun _ _ _ h => h) (Or.inr ⟨by rfl, rfl⟩) (by trivial) ?_
                            try simp only [Act.put, List.setIfInBounds_toArray, List.set_cons_zero, List.set_cons_succ]
                            refine wpAnyH_take (i := 20) (oi := { dst := some 135, op := Op.load 3 (Operand.tmp 134), type := 3, pos := "ref.go:338", after := #[{ on := 19, ground := Ground.data }, { on := 9, ground := Ground.guard }], guard := some (9, false) }) (v := undef) rfl (by kernel_rfl) (by kernel_rfl) (by kernel_rfl) (fun _ _ _ h => h) (Or.inr ⟨by rfl, rfl⟩) (by trivial) ?_
                            try simp only [Act.put, List.setIfInBounds_toArray, List.set_cons_zero, List.set_cons_succ]
                            refine wpAnyH_take (i := 21) (oi := { dst := some 136, op := Op.binOp BinOp.sub 3 (Operand.tmp 128) (Operand.tmp 135) 3, type := 3, pos := "ref.go:338", after := #[{ on := 13, ground := Ground.data }, { on := 20, ground := Ground.data }, { on := 9, ground := Ground.guard }], guard := some (9, false) }) (v := undef) rfl (by kernel_rfl) (by kernel_rfl) (by kernel_rfl) (fun _ _ _ h => h) (Or.inr ⟨by rfl, rfl⟩) (by trivial) ?_
                            try simp only [Act.put, List.setIfInBounds_toArray, List.set_cons_zero, List.set_cons_succ]
                            refine wpAnyH_take (i := 22) (oi := { dst := some 137, op := Op.binOp BinOp.geq 3 (Operand.tmp 136) (Operand.const (Value.int IntKind.i64 200000)) 3, type := 4, pos := "ref.go:338", after := #[{ on := 21, ground := Ground.data }, { on := 9, ground := Ground.guard }], guard := some (9, false) }) (v := undef) rfl (by kernel_rfl) (by kernel_rfl) (by kernel_rfl) (fun _ _ _ h => h) (Or.inr ⟨by rfl, rfl⟩) (by trivial) ?_
                            try simp only [Act.put, List.setIfInBounds_toArray, List.set_cons_zero, List.set_cons_succ]
                            refine wpAnyH_take (i := 23) (oi := { dst := some 138, op := Op.pick (Operand.tmp 124) (Operand.const (Value.bool true)) (Operand.tmp 137), type := 4, pos := "ref.go:338", after := #[{ on := 9, ground := Ground.data }, { on := 22, ground := Ground.data }, { on := 6, ground := Ground.guard }], guard := some (6, true) }) (v := undef) rfl (by kernel_rfl) (by kernel_rfl) (by kernel_rfl) (fun _ _ _ h => h) (Or.inr ⟨by rfl, rfl⟩) (by trivial) ?_
                            try simp only [Act.put, List.setIfInBounds_toArray, List.set_cons_zero, List.set_cons_succ]
                            refine wpAnyH_take (i := 24) (oi := { dst := some 139, op := Op.pick (Operand.tmp 121) (Operand.tmp 138) (Operand.const (Value.bool false)), type := 4, pos := "ref.go:338", after := #[{ on := 6, ground := Ground.data }, { on := 23, ground := Ground.data }], guard := none }) (v := ?_) rfl (by kernel_rfl) (by kernel_rfl) (by kernel_rfl) (fun _ _ _ h => h) (Or.inl ⟨by rfl, ?_⟩) (by trivial) ?_
                            rotate_left
                            (focus (intro w9 hSw; have s9 := hSw; obtain ⟨ay9, hay9, ⟨r0, r1, r2, r3, r4⟩, v0, v1, v2, v3, v4⟩ := yr_at s9.z.y; injection hay9 with hay9; subst hay9; obtain ⟨lt, c0, c1, c2, c3⟩ := s9.cells; go_simp <;> with_reducible rfl))
                            try simp only [Act.put, List.setIfInBounds_toArray, List.set_cons_zero, List.set_cons_succ]
                            refine wpAnyH_take (i := 25) (oi := { dst := some 2, op := Op.assign (Operand.tmp 139), type := 4, pos := "ref.go:338", after := #[{ on := 24, ground := Ground.data }, { on := 12, ground := Ground.chain }, { on := 0, ground := Ground.phase }, { on := 1, ground := Ground.phase }, { on := 2, ground := Ground.phase }, { on := 3, ground := Ground.phase }, { on := 4, ground := Ground.phase }, { on := 5, ground := Ground.phase }, { on := 6, ground := Ground.phase }, { on := 7, ground := Ground.phase }, { on := 8, ground := Ground.phase }, { on := 9, ground := Ground.phase }, { on := 10, ground := Ground.phase }, { on := 11, ground := Ground.phase }, { on := 12, ground := Ground.phase }, { on := 13, ground := Ground.phase }, { on := 14, ground := Ground.phase }, { on := 15, ground := Ground.phase }, { on := 16, ground := Ground.phase }, { on := 17, ground := Ground.phase }, { on := 18, ground := Ground.phase }, { on := 19, ground := Ground.phase }, { on := 20, ground := Ground.phase }, { on := 21, ground := Ground.phase }, { on := 22, ground := Ground.phase }, { on := 23, ground := Ground.phase }, { on := 24, ground := Ground.phase }], guard := none }) (v := ?_) rfl (by kernel_rfl) (by kernel_rfl) (by kernel_rfl) (fun _ _ _ h => h) (Or.inl ⟨by rfl, ?_⟩) (by trivial) ?_
                            rotate_left
                            (focus (intro w9 hSw; have s9 := hSw; obtain ⟨ay9, hay9, ⟨r0, r1, r2, r3, r4⟩, v0, v1, v2, v3, v4⟩ := yr_at s9.z.y; injection hay9 with hay9; subst hay9; obtain ⟨lt, c0, c1, c2, c3⟩ := s9.cells; go_simp <;> with_reducible rfl))
                            try simp only [Act.put, List.setIfInBounds_toArray, List.set_cons_zero, List.set_cons_succ]
                            refine wpAnyH_done (by kernel_rfl) ?_ _
                            go_wp2_with fail
                            go_ret
                            exact ⟨by rw [mayZB_no fun h => absurd h.f.y.lo (by omega)]; rfl, s.b⟩
                        · have hk : L.length - 1 < L.length := by omega
                          obtain ⟨ad, rfl, -⟩ := s.z.s (L.length - 1) hk
                          have t1 : ((L.length : Int) == 0) = false := by rw [beq_eq_false_iff_ne]; omega
                          have z0 : (0 : Int) ≤ (L.length : Int) - 1 := by omega
                          have z1 : (L.length : Int) - 1 < (L.length : Int) := by omega
                          have z2 : ((L.length : Int) - 1).toNat = L.length - 1 := by omega
                          have z3 : (1 : Int) ≤ (L.length : Int) := by omega
                          obtain ⟨g1, g2⟩ := (hM.up.ok (L.length - 1) hk hk).1
                          obtain ⟨fb1, fb2⟩ := fb
                          have zw : IntKind.i64.wrap ((L.length : Int) - 1) = (L.length : Int) - 1 := wi64 (by omega) (by omega)
                          have zf : IntKind.i64.wrap (Civ.fst fr * 86400) = Civ.fst fr * 86400 := wi64 (by omega) (by omega)
                          have zg : IntKind.i64.wrap (Civ.fst fr * 86400 - L[L.length - 1].at_) = Civ.fst fr * 86400 - L[L.length - 1].at_ := wi64 (by omega) (by omega)
                          have hG : (∀ k (h : k < L.length), k + 1 = L.length → L[k].at_ + 200000 ≤ Civ.fst fr * 86400) ↔ L[L.length - 1].at_ + 200000 ≤ Civ.fst fr * 86400 := by
                            constructor
                            · intro h; exact h _ hk (by omega)
                            · intro h k hk' e
                              obtain rfl : k = L.length - 1 := by omega
                              exact h
                          have hG := Lib.hid hG
                          by_cases d1 : 2 ≤ b.m - a.m
                          · have d1t := decide_eq_true d1
                            by_cases d2 : b.m - a.m ≤ 10
                            · have d2t := decide_eq_true d2
                              by_cases q4 : 200000 ≤ Civ.fst fr * 86400 - L[L.length - 1].at_
                              · have q4t := decide_eq_true q4
                                go_wp2_with fail
                                replace s := s.drew
                                refine wp_region_held_drew (S := fun w9 => St w w9 w.heap.size bs (some ad) c (some ay) c' fr L [a, b]) (by kernel_rfl) s (fun _ => ?_)
                                refine wpAnyH_take (i := 0) (oi := { dst := some 115, op := Op.move (Operand.tmp 5), type := 3, pos := "ref.go:338", after := #[], guard := none }) (v := ?_) rfl (by kernel_rfl) (by kernel_rfl) (by kernel_rfl) (fun _ _ _ h => h) (Or.inl ⟨by rfl, ?_⟩) (by trivial) ?_
                                rotate_left
                                (focus (intro w9 hSw; have s9 := hSw; obtain ⟨ay9, hay9, ⟨r0, r1, r2, r3, r4⟩, v0, v1, v2, v3, v4⟩ := yr_at s9.z.y; injection hay9 with hay9; subst hay9; obtain ⟨p9, _⟩ := sh_at s9.z.s (L.length - 1) hk; obtain ⟨lt, c0, c1, c2, c3⟩ := s9.cells; go_simp <;> with_reducible rfl))
                                try simp only [Act.put, List.setIfInBounds_toArray, List.set_cons_zero, List.set_cons_succ]
                                refine wpAnyH_take (i := 1) (oi := { dst := some 116, op := Op.binOp BinOp.geq 3 (Operand.tmp 115) (Operand.const (Value.int IntKind.i64 2)) 3, type := 4, pos := "ref.go:338", after := #[{ on := 0, ground := Ground.data }], guard := none }) (v := ?_) rfl (by kernel_rfl) (by kernel_rfl) (by kernel_rfl) (fun _ _ _ h => h) (Or.inl ⟨by rfl, ?_⟩) (by trivial) ?_
                                rotate_left
                                (focus (intro w9 hSw; have s9 := hSw; obtain ⟨ay9, hay9, ⟨r0, r1, r2, r3, r4⟩, v0, v1, v2, v3, v4⟩ := yr_at s9.z.y; injection hay9 with hay9; subst hay9; obtain ⟨p9, _⟩ := sh_at s9.z.s (L.length - 1) hk; obtain ⟨lt, c0, c1, c2, c3⟩ := s9.cells; go_simp <;> with_reducible rfl))
                                try simp only [Act.put, List.setIfInBounds_toArray, List.set_cons_zero, List.set_cons_succ]
                                refine wpAnyH_take (i := 2) (oi := { dst := some 117, op := Op.move (Operand.tmp 116), type := 4, pos := "ref.go:338", after := #[{ on := 1, ground := Ground.data }], guard := none }) (v := ?_) rfl (by kernel_rfl) (by kernel_rfl) (by kernel_rfl) (fun _ _ _ h => h) (Or.inl ⟨by rfl, ?_⟩) (by trivial) ?_
                                rotate_left
                                (focus (intro w9 hSw; have s9 := hSw; obtain ⟨ay9, hay9, ⟨r0, r1, r2, r3, r4⟩, v0, v1, v2, v3, v4⟩ := yr_at s9.z.y; injection hay9 with hay9; subst hay9; obtain ⟨p9, _⟩ := sh_at s9.z.s (L.length - 1) hk; obtain ⟨lt, c0, c1, c2, c3⟩ := s9.cells; go_simp <;> with_reducible rfl))
                                try simp only [Act.put, List.setIfInBounds_toArray, List.set_cons_zero, List.set_cons_succ]
                                refine wpAnyH_take (i := 3) (oi := { dst := some 118, op := Op.move (Operand.tmp 5), type := 3, pos := "ref.go:338", after := #[{ on := 2, ground := Ground.guard }], guard := some (2, true) }) (v := ?_) rfl (by kernel_rfl) (by kernel_rfl) (by kernel_rfl) (fun _ _ _ h => h) (Or.inl ⟨by rfl, ?_⟩) (by trivial) ?_
                                rotate_left
                                (focus (intro w9 hSw; have s9 := hSw; obtain ⟨ay9, hay9, ⟨r0, r1, r2, r3, r4⟩, v0, v1, v2, v3, v4⟩ := yr_at s9.z.y; injection hay9 with hay9; subst hay9; obtain ⟨p9, _⟩ := sh_at s9.z.s (L.length - 1) hk; obtain ⟨lt, c0, c1, c2, c3⟩ := s9.cells; go_simp <;> with_reducible rfl))
                                try simp only [Act.put, List.setIfInBounds_toArray, List.set_cons_zero, List.set_cons_succ]
                                refine wpAnyH_take (i := 4) (oi := { dst := some 119, op := Op.binOp BinOp.leq 3 (Operand.tmp 118) (Operand.const (Value.int IntKind.i64 10)) 3, type := 4, pos := "ref.go:338", after := #[{ on := 3, ground := Ground.data }, { on := 2, ground := Ground.guard }], guard := some (2, true) }) (v := ?_) rfl (by kernel_rfl) (by kernel_rfl) (by kernel_rfl) (fun _ _ _ h => h) (Or.inl ⟨by rfl, ?_⟩) (by trivial) ?_
                                rotate_left
                                (focus (intro w9 hSw; have s9 := hSw; obtain ⟨ay9, hay9, ⟨r0, r1, r2, r3, r4⟩, v0, v1, v2, v3, v4⟩ := yr_at s9.z.y; injection hay9 with hay9; subst hay9; obtain ⟨p9, _⟩ := sh_at s9.z.s (L.length - 1) hk; obtain ⟨lt, c0, c1, c2, c3⟩ := s9.cells; go_simp <;> with_reducible rfl))
                                try simp only [Act.put, List.setIfInBounds_toArray, List.set_cons_zero, List.set_cons_succ]
                                refine wpAnyH_take (i := 5) (oi := { dst := some 120, op := Op.pick (Operand.tmp 117) (Operand.tmp 119) (Operand.const (Value.bool false)), type := 4, pos := "ref.go:338", after := #[{ on := 2, ground := Ground.data }, { on := 4, ground := Ground.data }], guard := none }) (v := ?_) rfl (by kernel_rfl) (by kernel_rfl) (by kernel_rfl) (fun _ _ _ h => h) (Or.inl ⟨by rfl, ?_⟩) (by trivial) ?_
                                rotate_left
                                (focus (intro w9 hSw; have s9 := hSw; obtain ⟨ay9, hay9, ⟨r0, r1, r2, r3, r4⟩, v0, v1, v2, v3, v4⟩ := yr_at s9.z.y; injection hay9 with hay9; subst hay9; obtain ⟨p9, _⟩ := sh_at s9.z.s (L.length - 1) hk; obtain ⟨lt, c0, c1, c2, c3⟩ := s9.cells; go_simp <;> with_reducible rfl))
                                try simp only [Act.put, List.setIfInBounds_toArray, List.set_cons_zero, List.set_cons_succ]
                                refine wpAnyH_take (i := 6) (oi := { dst := some 121, op := Op.move (Operand.tmp 120), type := 4, pos := "ref.go:338", after := #[{ on := 5, ground := Ground.data }, { on := 2, ground := Ground.chain }], guard := none }) (v := ?_) rfl (by kernel_rfl) (by kernel_rfl) (by kernel_rfl) (fun _ _ _ h => h) (Or.inl ⟨by rfl, ?_⟩) (by trivial) ?_
                                rotate_left
                                (focus (intro w9 hSw; have s9 := hSw; obtain ⟨ay9, hay9, ⟨r0, r1, r2, r3, r4⟩, v0, v1, v2, v3, v4⟩ := yr_at s9.z.y; injection hay9 with hay9; subst hay9; obtain ⟨p9, _⟩ := sh_at s9.z.s (L.length - 1) hk; obtain ⟨lt, c0, c1, c2, c3⟩ := s9.cells; go_simp <;> with_reducible rfl))
                                try simp only [Act.put, List.setIfInBounds_toArray, List.set_cons_zero, List.set_cons_succ]
                                refine wpAnyH_take (i := 7) (oi := { dst := some 122, op := Op.move (Operand.tmp 6), type := 3, pos := "ref.go:338", after := #[{ on := 6, ground := Ground.guard }], guard := some (6, true) }) (v := ?_) rfl (by kernel_rfl) (by kernel_rfl) (by kernel_rfl) (fun _ _ _ h => h) (Or.inl ⟨by rfl, ?_⟩) (by trivial) ?_
                                rotate_left
                                (focus (intro w9 hSw; have s9 := hSw; obtain ⟨ay9, hay9, ⟨r0, r1, r2, r3, r4⟩, v0, v1, v2, v3, v4⟩ := yr_at s9.z.y; injection hay9 with hay9; subst hay9; obtain ⟨p9, _⟩ := sh_at s9.z.s (L.length - 1) hk; obtain ⟨lt, c0, c1, c2, c3⟩ := s9.cells; go_simp <;> with_reducible rfl))
                                try simp only [Act.put, List.setIfInBounds_toArray, List.set_cons_zero, List.set_cons_succ]
                                refine wpAnyH_take (i := 8) (oi := { dst := some 123, op := Op.binOp BinOp.eql 3 (Operand.tmp 122) (Operand.const (Value.int IntKind.i64 0)) 3, type := 4, pos := "ref.go:338", after := #[{ on := 7, ground := Ground.data }, { on := 6, ground := Ground.guard }], guard := some (6, true) }) (v := ?_) rfl (by kernel_rfl) (by kernel_rfl) (by kernel_rfl) (fun _ _ _ h => h) (Or.inl ⟨by rfl, ?_⟩) (by trivial) ?_
                                rotate_left
                                (focus (intro w9 hSw; have s9 := hSw; obtain ⟨ay9, hay9, ⟨r0, r1, r2, r3, r4⟩, v0, v1, v2, v3, v4⟩ := yr_at s9.z.y; injection hay9 with hay9; subst hay9; obtain ⟨p9, _⟩ := sh_at s9.z.s (L.length - 1) hk; obtain ⟨lt, c0, c1, c2, c3⟩ := s9.cells; go_simp <;> with_reducible rfl))
                                try simp only [Act.put, List.setIfInBounds_toArray, List.set_cons_zero, List.set_cons_succ]
                                refine wpAnyH_take (i := 9) (oi := { dst := some 124, op := Op.move (Operand.tmp 123), type := 4, pos := "ref.go:338", after := #[{ on := 8, ground := Ground.data }, { on := 6, ground := Ground.chain }, { on := 6, ground := Ground.guard }], guard := some (6, true) }) (v := ?_) rfl (by kernel_rfl) (by kernel_rfl) (by kernel_rfl) (fun _ _ _ h => h) (Or.inl ⟨by rfl, ?_⟩) (by trivial) ?_
                                rotate_left
                                (focus (intro w9 hSw; have s9 := hSw; obtain ⟨ay9, hay9, ⟨r0, r1, r2, r3, r4⟩, v0, v1, v2, v3, v4⟩ := yr_at s9.z.y; injection hay9 with hay9; subst hay9; obtain ⟨p9, _⟩ := sh_at s9.z.s (L.length - 1) hk; obtain ⟨lt, c0, c1, c2, c3⟩ := s9.cells; go_simp <;> with_reducible rfl))
                                try simp only [Act.put, List.setIfInBounds_toArray, List.set_cons_zero, List.set_cons_succ]
                                refine wpAnyH_take (i := 10) (oi := { dst := some 125, op := Op.fieldAddr 25 (Operand.tmp 1) 3, type := 0, pos := "ref.go:338", after := #[{ on := 9, ground := Ground.guard }], guard := some (9, false) }) (v := ?_) rfl (by kernel_rfl) (by kernel_rfl) (by kernel_rfl) (fun _ _ _ h => h) (Or.inl ⟨by rfl, ?_⟩) (by trivial) ?_
                                rotate_left
                                (focus (intro w9 hSw; have s9 := hSw; obtain ⟨ay9, hay9, ⟨r0, r1, r2, r3, r4⟩, v0, v1, v2, v3, v4⟩ := yr_at s9.z.y; injection hay9 with hay9; subst hay9; obtain ⟨p9, _⟩ := sh_at s9.z.s (L.length - 1) hk; obtain ⟨lt, c0, c1, c2, c3⟩ := s9.cells; go_simp <;> with_reducible rfl))
                                try simp only [Act.put, List.setIfInBounds_toArray, List.set_cons_zero, List.set_cons_succ]
                                refine wpAnyH_take (i := 11) (oi := { dst := some 126, op := Op.load 3 (Operand.tmp 125), type := 3, pos := "ref.go:338", after := #[{ on := 10, ground := Ground.data }, { on := 9, ground := Ground.guard }], guard := some (9, false) }) (v := ?_) rfl (by kernel_rfl) (by kernel_rfl) (by kernel_rfl) (fun _ _ _ h => h) (Or.inl ⟨by rfl, ?_⟩) (by trivial) ?_
                                rotate_left
                                (focus (intro w9 hSw; have s9 := hSw; obtain ⟨ay9, hay9, ⟨r0, r1, r2, r3, r4⟩, v0, v1, v2, v3, v4⟩ := yr_at s9.z.y; injection hay9 with hay9; subst hay9; obtain ⟨p9, _⟩ := sh_at s9.z.s (L.length - 1) hk; obtain ⟨lt, c0, c1, c2, c3⟩ := s9.cells; go_simp <;> with_reducible rfl))
                                try simp only [Act.put, List.setIfInBounds_toArray, List.set_cons_zero, List.set_cons_succ]
                                refine wpAnyH_take (i := 14) (oi := { dst := some 129, op := Op.fieldAddr 25 (Operand.tmp 1) 1, type := 0, pos := "ref.go:338", after := #[{ on := 9, ground := Ground.guard }], guard := some (9, false) }) (v := ?_) rfl (by kernel_rfl) (by kernel_rfl) (by kernel_rfl) (fun _ _ _ h => h) (Or.inl ⟨by rfl, ?_⟩) (by trivial) ?_
                                rotate_left
                                (focus (intro w9 hSw; have s9 := hSw; obtain ⟨ay9, hay9, ⟨r0, r1, r2, r3, r4⟩, v0, v1, v2, v3, v4⟩ := yr_at s9.z.y; injection hay9 with hay9; subst hay9; obtain ⟨p9, _⟩ := sh_at s9.z.s (L.length - 1) hk; obtain ⟨lt, c0, c1, c2, c3⟩ := s9.cells; go_simp <;> with_reducible rfl))
                                try simp only [Act.put, List.setIfInBounds_toArray, List.set_cons_zero, List.set_cons_succ]
                                refine wpAnyH_take (i := 15) (oi := { dst := some 130, op := Op.load 22 (Operand.tmp 129), type := 22, pos := "ref.go:338", after := #[{ on := 14, ground := Ground.data }, { on := 9, ground := Ground.guard }], guard := some (9, false) }) (v := ?_) rfl (by kernel_rfl) (by kernel_rfl) (by kernel_rfl) (fun _ _ _ h => h) (Or.inl ⟨by rfl, ?_⟩) (by trivial) ?_
                                rotate_left
                                (focus (intro w9 hSw; have s9 := hSw; obtain ⟨ay9, hay9, ⟨r0, r1, r2, r3, r4⟩, v0, v1, v2, v3, v4⟩ := yr_at s9.z.y; injection hay9 with hay9; subst hay9; obtain ⟨p9, _⟩ := sh_at s9.z.s (L.length - 1) hk; obtain ⟨lt, c0, c1, c2, c3⟩ := s9.cells; go_simp <;> with_reducible rfl))
                                try simp only [Act.put, List.setIfInBounds_toArray, List.set_cons_zero, List.set_cons_succ]
                                refine wpAnyH_take (i := 16) (oi := { dst := some 131, op := Op.move (Operand.tmp 6), type := 3, pos := "ref.go:338", after := #[{ on := 9, ground := Ground.guard }], guard := some (9, false) }) (v := ?_) rfl (by kernel_rfl) (by kernel_rfl) (by kernel_rfl) (fun _ _ _ h => h) (Or.inl ⟨by rfl, ?_⟩) (by trivial) ?_
                                rotate_left
                                (focus (intro w9 hSw; have s9 := hSw; obtain ⟨ay9, hay9, ⟨r0, r1, r2, r3, r4⟩, v0, v1, v2, v3, v4⟩ := yr_at s9.z.y; injection hay9 with hay9; subst hay9; obtain ⟨p9, _⟩ := sh_at s9.z.s (L.length - 1) hk; obtain ⟨lt, c0, c1, c2, c3⟩ := s9.cells; go_simp <;> with_reducible rfl))
                                try simp only [Act.put, List.setIfInBounds_toArray, List.set_cons_zero, List.set_cons_succ]
                                refine wpAnyH_take (i := 17) (oi := { dst := some 132, op := Op.binOp BinOp.sub 3 (Operand.tmp 131) (Operand.const (Value.int IntKind.i64 1)) 3, type := 3, pos := "ref.go:338", after := #[{ on := 16, ground := Ground.data }, { on := 9, ground := Ground.guard }], guard := some (9, false) }) (v := ?_) rfl (by kernel_rfl) (by kernel_rfl) (by kernel_rfl) (fun _ _ _ h => h) (Or.inl ⟨by rfl, ?_⟩) (by trivial) ?_
                                rotate_left
                                (focus (intro w9 hSw; have s9 := hSw; obtain ⟨ay9, hay9, ⟨r0, r1, r2, r3, r4⟩, v0, v1, v2, v3, v4⟩ := yr_at s9.z.y; injection hay9 with hay9; subst hay9; obtain ⟨p9, _⟩ := sh_at s9.z.s (L.length - 1) hk; obtain ⟨lt, c0, c1, c2, c3⟩ := s9.cells; go_simp <;> with_reducible rfl))
                                try simp only [Act.put, List.setIfInBounds_toArray, List.set_cons_zero, List.set_cons_succ]
                                refine wpAnyH_take (i := 18) (oi := { dst := some 133, op := Op.indexAddr 22 (Operand.tmp 130) (Operand.tmp 132), type := 0, pos := "ref.go:338", after := #[{ on := 15, ground := Ground.data }, { on := 17, ground := Ground.data }, { on := 9, ground := Ground.guard }], guard := some (9, false) }) (v := ?_) rfl (by kernel_rfl) (by kernel_rfl) (by kernel_rfl) (fun _ _ _ h => h) (Or.inl ⟨by rfl, ?_⟩) (by trivial) ?_
                                rotate_left
                                (focus (intro w9 hSw; have s9 := hSw; obtain ⟨ay9, hay9, ⟨r0, r1, r2, r3, r4⟩, v0, v1, v2, v3, v4⟩ := yr_at s9.z.y; injection hay9 with hay9; subst hay9; obtain ⟨p9, _⟩ := sh_at s9.z.s (L.length - 1) hk; obtain ⟨lt, c0, c1, c2, c3⟩ := s9.cells; go_simp <;> with_reducible rfl))
                                try simp only [Act.put, List.setIfInBounds_toArray, List.set_cons_zero, List.set_cons_succ]
                                refine wpAnyH_take (i := 19) (oi := { dst := some 134, op := Op.fieldAddr 29 (Operand.tmp 133) 0, type := 0, pos := "ref.go:338", after := #[{ on := 18, ground := Ground.data }, { on := 9, ground := Ground.guard }], guard := some (9, false) }) (v := ?_) rfl (by kernel_rfl) (by kernel_rfl) (by kernel_rfl) (fun _ _ _ h => h) (Or.inl ⟨by rfl, ?_⟩) (by trivial) ?_
                                rotate_left
                                (focus (intro w9 hSw; have s9 := hSw; obtain ⟨ay9, hay9, ⟨r0, r1, r2, r3, r4⟩, v0, v1, v2, v3, v4⟩ := yr_at s9.z.y; injection hay9 with hay9; subst hay9; obtain ⟨p9, _⟩ := sh_at s9.z.s (L.length - 1) hk; obtain ⟨lt, c0, c1, c2, c3⟩ := s9.cells; go_simp <;> with_reducible rfl))
                                try simp only [Act.put, List.setIfInBounds_toArray, List.set_cons_zero, List.set_cons_succ]
                                refine wpAnyH_take (i := 20) (oi := { dst := some 135, op := Op.load 3 (Operand.tmp 134), type := 3, pos := "ref.go:338", after := #[{ on := 19, ground := Ground.data }, { on := 9, ground := Ground.guard }], guard := some (9, false) }) (v := ?_) rfl (by kernel_rfl) (by kernel_rfl) (by kernel_rfl) (fun _ _ _ h => h) (Or.inl ⟨by rfl, ?_⟩) (by trivial) ?_
                                rotate_left
                                (focus (intro w9 hSw; have s9 := hSw; obtain ⟨ay9, hay9, ⟨r0, r1, r2, r3, r4⟩, v0, v1, v2, v3, v4⟩ := yr_at s9.z.y; injection hay9 with hay9; subst hay9; obtain ⟨p9, _⟩ := sh_at s9.z.s (L.length - 1) hk; obtain ⟨lt, c0, c1, c2, c3⟩ := s9.cells; go_simp <;> with_reducible rfl))
                                try simp only [Act.put, List.setIfInBounds_toArray, List.set_cons_zero, List.set_cons_succ]
                                refine wpAnyH_ready (rs := [12]) (by kernel_rfl) (by simp) ?_
                                refine AllReadyH.cons (o := { dst := some 127, op := Op.call { callee := Callee.value (Operand.func 40), args := #[Operand.tmp 126], argTypes := #[3] }, type := 3, pos := "ref.go:338", after := #[{ on := 11, ground := Ground.data }, { on := 9, ground := Ground.chain }, { on := 9, ground := Ground.guard }], guard := some (9, false) }) rfl (fun K hK => ?_) AllReadyH.nil
                                go_simp
                                refine (hF1 _).mono ?_
                                rintro e w3 ⟨rfl, rfl⟩
                                go_wp2_with fail
                                refine hK.out _ _ s (fun _ => ?_)
                                clear hK K
                                try simp only [Act.put, List.setIfInBounds_toArray, List.set_cons_zero, List.set_cons_succ]
                                refine wpAnyH_take (i := 13) (oi := { dst := some 128, op := Op.binOp BinOp.mul 3 (Operand.tmp 127) (Operand.const (Value.int IntKind.i64 86400)) 3, type := 3, pos := "ref.go:338", after := #[{ on := 12, ground := Ground.data }, { on := 9, ground := Ground.guard }], guard := some (9, false) }) (v := ?_) rfl (by kernel_rfl) (by kernel_rfl) (by kernel_rfl) (fun _ _ _ h => h) (Or.inl ⟨by rfl, ?_⟩) (by trivial) ?_
                                rotate_left
                                (focus (intro w9 hSw; have s9 := hSw; obtain ⟨ay9, hay9, ⟨r0, r1, r2, r3, r4⟩, v0, v1, v2, v3, v4⟩ := yr_at s9.z.y; injection hay9 with hay9; subst hay9; obtain ⟨p9, _⟩ := sh_at s9.z.s (L.length - 1) hk; obtain ⟨lt, c0, c1, c2, c3⟩ := s9.cells; go_simp <;> with_reducible rfl))
                                try simp only [Act.put, List.setIfInBounds_toArray, List.set_cons_zero, List.set_cons_succ]
                                refine wpAnyH_take (i := 21) (oi := { dst := some 136, op := Op.binOp BinOp.sub 3 (Operand.tmp 128) (Operand.tmp 135) 3, type := 3, pos := "ref.go:338", after := #[{ on := 13, ground := Ground.data }, { on := 20, ground := Ground.data }, { on := 9, ground := Ground.guard }], guard := some (9, false) }) (v := ?_) rfl (by kernel_rfl) (by kernel_rfl) (by kernel_rfl) (fun _ _ _ h => h) (Or.inl ⟨by rfl, ?_⟩) (by trivial) ?_
                                rotate_left
                                (focus (intro w9 hSw; have s9 := hSw; obtain ⟨ay9, hay9, ⟨r0, r1, r2, r3, r4⟩, v0, v1, v2, v3, v4⟩ := yr_at s9.z.y; injection hay9 with hay9; subst hay9; obtain ⟨p9, _⟩ := sh_at s9.z.s (L.length - 1) hk; obtain ⟨lt, c0, c1, c2, c3⟩ := s9.cells; go_simp <;> with_reducible rfl))
                                try simp only [Act.put, List.setIfInBounds_toArray, List.set_cons_zero, List.set_cons_succ]
                                refine wpAnyH_take (i := 22) (oi := { dst := some 137, op := Op.binOp BinOp.geq 3 (Operand.tmp 136) (Operand.const (Value.int IntKind.i64 200000)) 3, type := 4, pos := "ref.go:338", after := #[{ on := 21, ground := Ground.data }, { on := 9, ground := Ground.guard }], guard := some (9, false) }) (v := ?_) rfl (by kernel_rfl) (by kernel_rfl) (by kernel_rfl) (fun _ _ _ h => h) (Or.inl ⟨by rfl, ?_⟩) (by trivial) ?_
                                rotate_left
                                (focus (intro w9 hSw; have s9 := hSw; obtain ⟨ay9, hay9, ⟨r0, r1, r2, r3, r4⟩, v0, v1, v2, v3, v4⟩ := yr_at s9.z.y; injection hay9 with hay9; subst hay9; obtain ⟨p9, _⟩ := sh_at s9.z.s (L.length - 1) hk; obtain ⟨lt, c0, c1, c2, c3⟩ := s9.cells; go_simp <;> with_reducible rfl))
                                try simp only [Act.put, List.setIfInBounds_toArray, List.set_cons_zero, List.set_cons_succ]
                                refine wpAnyH_take (i := 23) (oi := { dst := some 138, op := Op.pick (Operand.tmp 124) (Operand.const (Value.bool true)) (Operand.tmp 137), type := 4, pos := "ref.go:338", after := #[{ on := 9, ground := Ground.data }, { on := 22, ground := Ground.data }, { on := 6, ground := Ground.guard }], guard := some (6, true) }) (v := ?_) rfl (by kernel_rfl) (by kernel_rfl) (by kernel_rfl) (fun _ _ _ h => h) (Or.inl ⟨by rfl, ?_⟩) (by trivial) ?_
                                rotate_left
                                (focus (intro w9 hSw; have s9 := hSw; obtain ⟨ay9, hay9, ⟨r0, r1, r2, r3, r4⟩, v0, v1, v2, v3, v4⟩ := yr_at s9.z.y; injection hay9 with hay9; subst hay9; obtain ⟨p9, _⟩ := sh_at s9.z.s (L.length - 1) hk; obtain ⟨lt, c0, c1, c2, c3⟩ := s9.cells; go_simp <;> with_reducible rfl))
                                try simp only [Act.put, List.setIfInBounds_toArray, List.set_cons_zero, List.set_cons_succ]
                                refine wpAnyH_take (i := 24) (oi := { dst := some 139, op := Op.pick (Operand.tmp 121) (Operand.tmp 138) (Operand.const (Value.bool false)), type := 4, pos := "ref.go:338", after := #[{ on := 6, ground := Ground.data }, { on := 23, ground := Ground.data }], guard := none }) (v := ?_) rfl (by kernel_rfl) (by kernel_rfl) (by kernel_rfl) (fun _ _ _ h => h) (Or.inl ⟨by rfl, ?_⟩) (by trivial) ?_
                                rotate_left
                                (focus (intro w9 hSw; have s9 := hSw; obtain ⟨ay9, hay9, ⟨r0, r1, r2, r3, r4⟩, v0, v1, v2, v3, v4⟩ := yr_at s9.z.y; injection hay9 with hay9; subst hay9; obtain ⟨p9, _⟩ := sh_at s9.z.s (L.length - 1) hk; obtain ⟨lt, c0, c1, c2, c3⟩ := s9.cells; go_simp <;> with_reducible rfl))
                                try simp only [Act.put, List.setIfInBounds_toArray, List.set_cons_zero, List.set_cons_succ]
                                refine wpAnyH_take (i := 25) (oi := { dst := some 2, op := Op.assign (Operand.tmp 139), type := 4, pos := "ref.go:338", after := #[{ on := 24, ground := Ground.data }, { on := 12, ground := Ground.chain }, { on := 0, ground := Ground.phase }, { on := 1, ground := Ground.phase }, { on := 2, ground := Ground.phase }, { on := 3, ground := Ground.phase }, { on := 4, ground := Ground.phase }, { on := 5, ground := Ground.phase }, { on := 6, ground := Ground.phase }, { on := 7, ground := Ground.phase }, { on := 8, ground := Ground.phase }, { on := 9, ground := Ground.phase }, { on := 10, ground := Ground.phase }, { on := 11, ground := Ground.phase }, { on := 12, ground := Ground.phase }, { on := 13, ground := Ground.phase }, { on := 14, ground := Ground.phase }, { on := 15, ground := Ground.phase }, { on := 16, ground := Ground.phase }, { on := 17, ground := Ground.phase }, { on := 18, ground := Ground.phase }, { on := 19, ground := Ground.phase }, { on := 20, ground := Ground.phase }, { on := 21, ground := Ground.phase }, { on := 22, ground := Ground.phase }, { on := 23, ground := Ground.phase }, { on := 24, ground := Ground.phase }], guard := none }) (v := ?_) rfl (by kernel_rfl) (by kernel_rfl) (by kernel_rfl) (fun _ _ _ h => h) (Or.inl ⟨by rfl, ?_⟩) (by trivial) ?_
                                rotate_left
                                (focus (intro w9 hSw; have s9 := hSw; obtain ⟨ay9, hay9, ⟨r0, r1, r2, r3, r4⟩, v0, v1, v2, v3, v4⟩ := yr_at s9.z.y; injection hay9 with hay9; subst hay9; obtain ⟨p9, _⟩ := sh_at s9.z.s (L.length - 1) hk; obtain ⟨lt, c0, c1, c2, c3⟩ := s9.cells; go_simp <;> with_reducible rfl))
                                try simp only [Act.put, List.setIfInBounds_toArray, List.set_cons_zero, List.set_cons_succ]
                                refine wpAnyH_done (by kernel_rfl) ?_ _
                                go_wp2_with fail
                                go_ret
                                exact ⟨by rw [mayZB_yes ⟨hO, hM, .inr ⟨a, b, rfl, by omega, by omega, ⟨ka, kb, d1, d2⟩, hG.out.mpr (by omega)⟩⟩]; rfl, s.b⟩
                              · have q4t := decide_eq_false q4
                                go_wp2_with fail
                                replace s := s.drew
                                refine wp_region_held_drew (S := fun w9 => St w w9 w.heap.size bs (some ad) c (some ay) c' fr L [a, b]) (by kernel_rfl) s (fun _ => ?_)
                                refine wpAnyH_take (i := 0) (oi := { dst := some 115, op := Op.move (Operand.tmp 5), type := 3, pos := "ref.go:338", after := #[], guard := none }) (v := ?_) rfl (by kernel_rfl) (by kernel_rfl) (by kernel_rfl) (fun _ _ _ h => h) (Or.inl ⟨by rfl, ?_⟩) (by trivial) ?_
                                rotate_left
                                (focus (intro w9 hSw; have s9 := hSw; obtain ⟨ay9, hay9, ⟨r0, r1, r2, r3, r4⟩, v0, v1, v2, v3, v4⟩ := yr_at s9.z.y; injection hay9 with hay9; subst hay9; obtain ⟨p9, _⟩ := sh_at s9.z.s (L.length - 1) hk; obtain ⟨lt, c0, c1, c2, c3⟩ := s9.cells; go_simp <;> with_reducible rfl))
                                try simp only [Act.put, List.setIfInBounds_toArray, List.set_cons_zero, List.set_cons_succ]
                                refine wpAnyH_take (i := 1) (oi := { dst := some 116, op := Op.binOp BinOp.geq 3 (Operand.tmp 115) (Operand.const (Value.int IntKind.i64 2)) 3, type := 4, pos := "ref.go:338", after := #[{ on := 0, ground := Ground.data }], guard := none }) (v := ?_) rfl (by kernel_rfl) (by kernel_rfl) (by kernel_rfl) (fun _ _ _ h => h) (Or.inl ⟨by rfl, ?_⟩) (by trivial) ?_
                                rotate_left
                                (focus (intro w9 hSw; have s9 := hSw; obtain ⟨ay9, hay9, ⟨r0, r1, r2, r3, r4⟩, v0, v1, v2, v3, v4⟩ := yr_at s9.z.y; injection hay9 with hay9; subst hay9; obtain ⟨p9, _⟩ := sh_at s9.z.s (L.length - 1) hk; obtain ⟨lt, c0, c1, c2, c3⟩ := s9.cells; go_simp <;> with_reducible rfl))
                                try simp only [Act.put, List.setIfInBounds_toArray, List.set_cons_zero, List.set_cons_succ]
                                refine wpAnyH_take (i := 2) (oi := { dst := some 117, op := Op.move (Operand.tmp 116), type := 4, pos := "ref.go:338", after := #[{ on := 1, ground := Ground.data }], guard := none }) (v := ?_) rfl (by kernel_rfl) (by kernel_rfl) (by kernel_rfl) (fun _ _ _ h => h) (Or.inl ⟨by rfl, ?_⟩) (by trivial) ?_
                                rotate_left
                                (focus (intro w9 hSw; have s9 := hSw; obtain ⟨ay9, hay9, ⟨r0, r1, r2, r3, r4⟩, v0, v1, v2, v3, v4⟩ := yr_at s9.z.y; injection hay9 with hay9; subst hay9; obtain ⟨p9, _⟩ := sh_at s9.z.s (L.length - 1) hk; obtain ⟨lt, c0, c1, c2, c3⟩ := s9.cells; go_simp <;> with_reducible rfl))
                                try simp only [Act.put, List.setIfInBounds_toArray, List.set_cons_zero, List.set_cons_succ]
                                refine wpAnyH_take (i := 3) (oi := { dst := some 118, op := Op.move (Operand.tmp 5), type := 3, pos := "ref.go:338", after := #[{ on := 2, ground := Ground.guard }], guard := some (2, true) }) (v := ?_) rfl (by kernel_rfl) (by kernel_rfl) (by kernel_rfl) (fun _ _ _ h => h) (Or.inl ⟨by rfl, ?_⟩) (by trivial) ?_
                                rotate_left
                                (focus (intro w9 hSw; have s9 := hSw; obtain ⟨ay9, hay9, ⟨r0, r1, r2, r3, r4⟩, v0, v1, v2, v3, v4⟩ := yr_at s9.z.y; injection hay9 with hay9; subst hay9; obtain ⟨p9, _⟩ := sh_at s9.z.s (L.length - 1) hk; obtain ⟨lt, c0, c1, c2, c3⟩ := s9.cells; go_simp <;> with_reducible rfl))
                                try simp only [Act.put, List.setIfInBounds_toArray, List.set_cons_zero, List.set_cons_succ]
                                refine wpAnyH_take (i := 4) (oi := { dst := some 119, op := Op.binOp BinOp.leq 3 (Operand.tmp 118) (Operand.const (Value.int IntKind.i64 10)) 3, type := 4, pos := "ref.go:338", after := #[{ on := 3, ground := Ground.data }, { on := 2, ground := Ground.guard }], guard := some (2, true) }) (v := ?_) rfl (by kernel_rfl) (by kernel_rfl) (by kernel_rfl) (fun _ _ _ h => h) (Or.inl ⟨by rfl, ?_⟩) (by trivial) ?_
                                rotate_left
                                (focus (intro w9 hSw; have s9 := hSw; obtain ⟨ay9, hay9, ⟨r0, r1, r2, r3, r4⟩, v0, v1, v2, v3, v4⟩ := yr_at s9.z.y; injection hay9 with hay9; subst hay9; obtain ⟨p9, _⟩ := sh_at s9.z.s (L.length - 1) hk; obtain ⟨lt, c0, c1, c2, c3⟩ := s9.cells; go_simp <;> with_reducible rfl))
                                try simp only [Act.put, List.setIfInBounds_toArray, List.set_cons_zero, List.set_cons_succ]
                                refine wpAnyH_take (i := 5) (oi := { dst := some 120, op := Op.pick (Operand.tmp 117) (Operand.tmp 119) (Operand.const (Value.bool false)), type := 4, pos := "ref.go:338", after := #[{ on := 2, ground := Ground.data }, { on := 4, ground := Ground.data }], guard := none }) (v := ?_) rfl (by kernel_rfl) (by kernel_rfl) (by kernel_rfl) (fun _ _ _ h => h) (Or.inl ⟨by rfl, ?_⟩) (by trivial) ?_
                                rotate_left
                                (focus (intro w9 hSw; have s9 := hSw; obtain ⟨ay9, hay9, ⟨r0, r1, r2, r3, r4⟩, v0, v1, v2, v3, v4⟩ := yr_at s9.z.y; injection hay9 with hay9; subst hay9; obtain ⟨p9, _⟩ := sh_at s9.z.s (L.length - 1) hk; obtain ⟨lt, c0, c1, c2, c3⟩ := s9.cells; go_simp <;> with_reducible rfl))
                                try simp only [Act.put, List.setIfInBounds_toArray, List.set_cons_zero, List.set_cons_succ]
                                refine wpAnyH_take (i := 6) (oi := { dst := some 121, op := Op.move (Operand.tmp 120), type := 4, pos := "ref.go:338", after := #[{ on := 5, ground := Ground.data }, { on := 2, ground := Ground.chain }], guard := none }) (v := ?_) rfl (by kernel_rfl) (by kernel_rfl) (by kernel_rfl) (fun _ _ _ h => h) (Or.inl ⟨by rfl, ?_⟩) (by trivial) ?_
                                rotate_left
                                (focus (intro w9 hSw; have s9 := hSw; obtain ⟨ay9, hay9, ⟨r0, r1, r2, r3, r4⟩, v0, v1, v2, v3, v4⟩ := yr_at s9.z.y; injection hay9 with hay9; subst hay9; obtain ⟨p9, _⟩ := sh_at s9.z.s (L.length - 1) hk; obtain ⟨lt, c0, c1, c2, c3⟩ := s9.cells; go_simp <;> with_reducible rfl))
                                try simp only [Act.put, List.setIfInBounds_toArray, List.set_cons_zero, List.set_cons_succ]
                                refine wpAnyH_take (i := 7) (oi := { dst := some 122, op := Op.move (Operand.tmp 6), type := 3, pos := "ref.go:338", after := #[{ on := 6, ground := Ground.guard }], guard := some (6, true) }) (v := ?_) rfl (by kernel_rfl) (by kernel_rfl) (by kernel_rfl) (fun _ _ _ h => h) (Or.inl ⟨by rfl, ?_⟩) (by trivial) ?_
                                rotate_left
                                (focus (intro w9 hSw; have s9 := hSw; obtain ⟨ay9, hay9, ⟨r0, r1, r2, r3, r4⟩, v0, v1, v2, v3, v4⟩ := yr_at s9.z.y; injection hay9 with hay9; subst hay9; obtain ⟨p9, _⟩ := sh_at s9.z.s (L.length - 1) hk; obtain ⟨lt, c0, c1, c2, c3⟩ := s9.cells; go_simp <;> with_reducible rfl))
                                try simp only [Act.put, List.setIfInBounds_toArray, List.set_cons_zero, List.set_cons_succ]
                                refine wpAnyH_take (i := 8) (oi := { dst := some 123, op := Op.binOp BinOp.eql 3 (Operand.tmp 122) (Operand.const (Value.int IntKind.i64 0)) 3, type := 4, pos := "ref.go:338", after := #[{ on := 7, ground := Ground.data }, { on := 6, ground := Ground.guard }], guard := some (6, true) }) (v := ?_) rfl (by kernel_rfl) (by kernel_rfl) (by kernel_rfl) (fun _ _ _ h => h) (Or.inl ⟨by rfl, ?_⟩) (by trivial) ?_
                                rotate_left
                                (focus (intro w9 hSw; have s9 := hSw; obtain ⟨ay9, hay9, ⟨r0, r1, r2, r3, r4⟩, v0, v1, v2, v3, v4⟩ := yr_at s9.z.y; injection hay9 with hay9; subst hay9; obtain ⟨p9, _⟩ := sh_at s9.z.s (L.length - 1) hk; obtain ⟨lt, c0, c1, c2, c3⟩ := s9.cells; go_simp <;> with_reducible rfl))
                                try simp only [Act.put, List.setIfInBounds_toArray, List.set_cons_zero, List.set_cons_succ]
                                refine wpAnyH_take (i := 9) (oi := { dst := some 124, op := Op.move (Operand.tmp 123), type := 4, pos := "ref.go:338", after := #[{ on := 8, ground := Ground.data }, { on := 6, ground := Ground.chain }, { on := 6, ground := Ground.guard }], guard := some (6, true) }) (v := ?_) rfl (by kernel_rfl) (by kernel_rfl) (by kernel_rfl) (fun _ _ _ h => h) (Or.inl ⟨by rfl, ?_⟩) (by trivial) ?_
                                rotate_left
                                (focus (intro w9 hSw; have s9 := hSw; obtain ⟨ay9, hay9, ⟨r0, r1, r2, r3, r4⟩, v0, v1, v2, v3, v4⟩ := yr_at s9.z.y; injection hay9 with hay9; subst hay9; obtain ⟨p9, _⟩ := sh_at s9.z.s (L.length - 1) hk; obtain ⟨lt, c0, c1, c2, c3⟩ := s9.cells; go_simp <;> with_reducible rfl))
                                try simp only [Act.put, List.setIfInBounds_toArray, List.set_cons_zero, List.set_cons_succ]
                                refine wpAnyH_take (i := 10) (oi := { dst := some 125, op := Op.fieldAddr 25 (Operand.tmp 1) 3, type := 0, pos := "ref.go:338", after := #[{ on := 9, ground := Ground.guard }], guard := some (9, false) }) (v := ?_) rfl (by kernel_rfl) (by kernel_rfl) (by kernel_rfl) (fun _ _ _ h => h) (Or.inl ⟨by rfl, ?_⟩) (by trivial) ?_
                                rotate_left
                                (focus (intro w9 hSw; have s9 := hSw; obtain ⟨ay9, hay9, ⟨r0, r1, r2, r3, r4⟩, v0, v1, v2, v3, v4⟩ := yr_at s9.z.y; injection hay9 with hay9; subst hay9; obtain ⟨p9, _⟩ := sh_at s9.z.s (L.length - 1) hk; obtain ⟨lt, c0, c1, c2, c3⟩ := s9.cells; go_simp <;> with_reducible rfl))
                                try simp only [Act.put, List.setIfInBounds_toArray, List.set_cons_zero, List.set_cons_succ]
                                refine wpAnyH_take (i := 11) (oi := { dst := some 126, op := Op.load 3 (Operand.tmp 125), type := 3, pos := "ref.go:338", after := #[{ on := 10, ground := Ground.data }, { on := 9, ground := Ground.guard }], guard := some (9, false) }) (v := ?_) rfl (by kernel_rfl) (by kernel_rfl) (by kernel_rfl) (fun _ _ _ h => h) (Or.inl ⟨by rfl, ?_⟩) (by trivial) ?_
                                rotate_left
                                (focus (intro w9 hSw; have s9 := hSw; obtain ⟨ay9, hay9, ⟨r0, r1, r2, r3, r4⟩, v0, v1, v2, v3, v4⟩ := yr_at s9.z.y; injection hay9 with hay9; subst hay9; obtain ⟨p9, _⟩ := sh_at s9.z.s (L.length - 1) hk; obtain ⟨lt, c0, c1, c2, c3⟩ := s9.cells; go_simp <;> with_reducible rfl))
                                try simp only [Act.put, List.setIfInBounds_toArray, List.set_cons_zero, List.set_cons_succ]
                                refine wpAnyH_take (i := 14) (oi := { dst := some 129, op := Op.fieldAddr 25 (Operand.tmp 1) 1, type := 0, pos := "ref.go:338", after := #[{ on := 9, ground := Ground.guard }], guard := some (9, false) }) (v := ?_) rfl (by kernel_rfl) (by kernel_rfl) (by kernel_rfl) (fun _ _ _ h => h) (Or.inl ⟨by rfl, ?_⟩) (by trivial) ?_
                                rotate_left
                                (focus (intro w9 hSw; have s9 := hSw; obtain ⟨ay9, hay9, ⟨r0, r1, r2, r3, r4⟩, v0, v1, v2, v3, v4⟩ := yr_at s9.z.y; injection hay9 with hay9; subst hay9; obtain ⟨p9, _⟩ := sh_at s9.z.s (L.length - 1) hk; obtain ⟨lt, c0, c1, c2, c3⟩ := s9.cells; go_simp <;> with_reducible rfl))
                                try simp only [Act.put, List.setIfInBounds_toArray, List.set_cons_zero, List.set_cons_succ]
                                refine wpAnyH_take (i := 15) (oi := { dst := some 130, op := Op.load 22 (Operand.tmp 129), type := 22, pos := "ref.go:338", after := #[{ on := 14, ground := Ground.data }, { on := 9, ground := Ground.guard }], guard := some (9, false) }) (v := ?_) rfl (by kernel_rfl) (by kernel_rfl) (by kernel_rfl) (fun _ _ _ h => h) (Or.inl ⟨by rfl, ?_⟩) (by trivial) ?_
                                rotate_left
                                (focus (intro w9 hSw; have s9 := hSw; obtain ⟨ay9, hay9, ⟨r0, r1, r2, r3, r4⟩, v0, v1, v2, v3, v4⟩ := yr_at s9.z.y; injection hay9 with hay9; subst hay9; obtain ⟨p9, _⟩ := sh_at s9.z.s (L.length - 1) hk; obtain ⟨lt, c0, c1, c2, c3⟩ := s9.cells; go_simp <;> with_reducible rfl))
                                try simp only [Act.put, List.setIfInBounds_toArray, List.set_cons_zero, List.set_cons_succ]
                                refine wpAnyH_take (i := 16) (oi := { dst := some 131, op := Op.move (Operand.tmp 6), type := 3, pos := "ref.go:338", after := #[{ on := 9, ground := Ground.guard }], guard := some (9, false) }) (v := ?_) rfl (by kernel_rfl) (by kernel_rfl) (by kernel_rfl) (fun _ _ _ h => h) (Or.inl ⟨by rfl, ?_⟩) (by trivial) ?_
                                rotate_left
                                (focus (intro w9 hSw; have s9 := hSw; obtain ⟨ay9, hay9, ⟨r0, r1, r2, r3, r4⟩, v0, v1, v2, v3, v4⟩ := yr_at s9.z.y; injection hay9 with hay9; subst hay9; obtain ⟨p9, _⟩ := sh_at s9.z.s (L.length - 1) hk; obtain ⟨lt, c0, c1, c2, c3⟩ := s9.cells; go_simp <;> with_reducible rfl))
                                try simp only [Act.put, List.setIfInBounds_toArray, List.set_cons_zero, List.set_cons_succ]
                                refine wpAnyH_take (i := 17) (oi := { dst := some 132, op := Op.binOp BinOp.sub 3 (Operand.tmp 131) (Operand.const (Value.int IntKind.i64 1)) 3, type := 3, pos := "ref.go:338", after := #[{ on := 16, ground := Ground.data }, { on := 9, ground := Ground.guard }], guard := some (9, false) }) (v := ?_) rfl (by kernel_rfl) (by kernel_rfl) (by kernel_rfl) (fun _ _ _ h => h) (Or.inl ⟨by rfl, ?_⟩) (by trivial) ?_
                                rotate_left
                                (focus (intro w9 hSw; have s9 := hSw; obtain ⟨ay9, hay9, ⟨r0, r1, r2, r3, r4⟩, v0, v1, v2, v3, v4⟩ := yr_at s9.z.y; injection hay9 with hay9; subst hay9; obtain ⟨p9, _⟩ := sh_at s9.z.s (L.length - 1) hk; obtain ⟨lt, c0, c1, c2, c3⟩ := s9.cells; go_simp <;> with_reducible rfl))
                                try simp only [Act.put, List.setIfInBounds_toArray, List.set_cons_zero, List.set_cons_succ]
                                refine wpAnyH_take (i := 18) (oi := { dst := some 133, op := Op.indexAddr 22 (Operand.tmp 130) (Operand.tmp 132), type := 0, pos := "ref.go:338", after := #[{ on := 15, ground := Ground.data }, { on := 17, ground := Ground.data }, { on := 9, ground := Ground.guard }], guard := some (9, false) }) (v := ?_) rfl (by kernel_rfl) (by kernel_rfl) (by kernel_rfl) (fun _ _ _ h => h) (Or.inl ⟨by rfl, ?_⟩) (by trivial) ?_
                                rotate_left
                                (focus (intro w9 hSw; have s9 := hSw; obtain ⟨ay9, hay9, ⟨r0, r1, r2, r3, r4⟩, v0, v1, v2, v3, v4⟩ := yr_at s9.z.y; injection hay9 with hay9; subst hay9; obtain ⟨p9, _⟩ := sh_at s9.z.s (L.length - 1) hk; obtain ⟨lt, c0, c1, c2, c3⟩ := s9.cells; go_simp <;> with_reducible rfl))
                                try simp only [Act.put, List.setIfInBounds_toArray, List.set_cons_zero, List.set_cons_succ]
                                refine wpAnyH_take (i := 19) (oi := { dst := some 134, op := Op.fieldAddr 29 (Operand.tmp 133) 0, type := 0, pos := "ref.go:338", after := #[{ on := 18, ground := Ground.data }, { on := 9, ground := Ground.guard }], guard := some (9, false) }) (v := ?_) rfl (by kernel_rfl) (by kernel_rfl) (by kernel_rfl) (fun _ _ _ h => h) (Or.inl ⟨by rfl, ?_⟩) (by trivial) ?_
                                rotate_left
                                (focus (intro w9 hSw; have s9 := hSw; obtain ⟨ay9, hay9, ⟨r0, r1, r2, r3, r4⟩, v0, v1, v2, v3, v4⟩ := yr_at s9.z.y; injection hay9 with hay9; subst hay9; obtain ⟨p9, _⟩ := sh_at s9.z.s (L.length - 1) hk; obtain ⟨lt, c0, c1, c2, c3⟩ := s9.cells; go_simp <;> with_reducible rfl))
                                try simp only [Act.put, List.setIfInBounds_toArray, List.set_cons_zero, List.set_cons_succ]
                                refine wpAnyH_take (i := 20) (oi := { dst := some 135, op := Op.load 3 (Operand.tmp 134), type := 3, pos := "ref.go:338", after := #[{ on := 19, ground := Ground.data }, { on := 9, ground := Ground.guard }], guard := some (9, false) }) (v := ?_) rfl (by kernel_rfl) (by kernel_rfl) (by kernel_rfl) (fun _ _ _ h => h) (Or.inl ⟨by rfl, ?_⟩) (by trivial) ?_
                                rotate_left
                                (focus (intro w9 hSw; have s9 := hSw; obtain ⟨ay9, hay9, ⟨r0, r1, r2, r3, r4⟩, v0, v1, v2, v3, v4⟩ := yr_at s9.z.y; injection hay9 with hay9; subst hay9; obtain ⟨p9, _⟩ := sh_at s9.z.s (L.length - 1) hk; obtain ⟨lt, c0, c1, c2, c3⟩ := s9.cells; go_simp <;> with_reducible rfl))
                                try simp only [Act.put, List.setIfInBounds_toArray, List.set_cons_zero, List.set_cons_succ]
                                refine wpAnyH_ready (rs := [12]) (by kernel_rfl) (by simp) ?_
                                refine AllReadyH.cons (o := { dst := some 127, op := Op.call { callee := Callee.value (Operand.func 40), args := #[Operand.tmp 126], argTypes := #[3] }, type := 3, pos := "ref.go:338", after := #[{ on := 11, ground := Ground.data }, { on := 9, ground := Ground.chain }, { on := 9, ground := Ground.guard }], guard := some (9, false) }) rfl (fun K hK => ?_) AllReadyH.nil
                                go_simp
                                refine (hF1 _).mono ?_
                                rintro e w3 ⟨rfl, rfl⟩
                                go_wp2_with fail
                                refine hK.out _ _ s (fun _ => ?_)
                                clear hK K
                                try simp only [Act.put, List.setIfInBounds_toArray, List.set_cons_zero, List.set_cons_succ]
                                refine wpAnyH_take (i := 13) (oi := { dst := some 128, op := Op.binOp BinOp.mul 3 (Operand.tmp 127) (Operand.const (Value.int IntKind.i64 86400)) 3, type := 3, pos := "ref.go:338", after := #[{ on := 12, ground := Ground.data }, { on := 9, ground := Ground.guard }], guard := some (9, false) }) (v := ?_) rfl (by kernel_rfl) (by kernel_rfl) (by kernel_rfl) (fun _ _ _ h => h) (Or.inl ⟨by rfl, ?_⟩) (by trivial) ?_
                                rotate_left
                                (focus (intro w9 hSw; have s9 := hSw; obtain ⟨ay9, hay9, ⟨r0, r1, r2, r3, r4⟩, v0, v1, v2, v3, v4⟩ := yr_at s9.z.y; injection hay9 with hay9; subst hay9; obtain ⟨p9, _⟩ := sh_at s9.z.s (L.length - 1) hk; obtain ⟨lt, c0, c1, c2, c3⟩ := s9.cells; go_simp <;> with_reducible rfl))
                                try simp only [Act.put, List.setIfInBounds_toArray, List.set_cons_zero, List.set_cons_succ]
                                refine wpAnyH_take (i := 21) (oi := { dst := some 136, op := Op.binOp BinOp.sub 3 (Operand.tmp 128) (Operand.tmp 135) 3, type := 3, pos := "ref.go:338", after := #[{ on := 13, ground := Ground.data }, { on := 20, ground := Ground.data }, { on := 9, ground := Ground.guard }], guard := some (9, false) }) (v := ?_) rfl (by kernel_rfl) (by kernel_rfl) (by kernel_rfl) (fun _ _ _ h => h) (Or.inl ⟨by rfl, ?_⟩) (by trivial) ?_
                                rotate_left
                                (focus (intro w9 hSw; have s9 := hSw; obtain ⟨ay9, hay9, ⟨r0, r1, r2, r3, r4⟩, v0, v1, v2, v3, v4⟩ := yr_at s9.z.y; injection hay9 with hay9; subst hay9; obtain ⟨p9, _⟩ := sh_at s9.z.s (L.length - 1) hk; obtain ⟨lt, c0, c1, c2, c3⟩ := s9.cells; go_simp <;> with_reducible rfl))
                                try simp only [Act.put, List.setIfInBounds_toArray, List.set_cons_zero, List.set_cons_succ]
                                refine wpAnyH_take (i := 22) (oi := { dst := some 137, op := Op.binOp BinOp.geq 3 (Operand.tmp 136) (Operand.const (Value.int IntKind.i64 200000)) 3, type := 4, pos := "ref.go:338", after := #[{ on := 21, ground := Ground.data }, { on := 9, ground := Ground.guard }], guard := some (9, false) }) (v := ?_) rfl (by kernel_rfl) (by kernel_rfl) (by kernel_rfl) (fun _ _ _ h => h) (Or.inl ⟨by rfl, ?_⟩) (by trivial) ?_
                                rotate_left
                                (focus (intro w9 hSw; have s9 := hSw; obtain ⟨ay9, hay9, ⟨r0, r1, r2, r3, r4⟩, v0, v1, v2, v3, v4⟩ := yr_at s9.z.y; injection hay9 with hay9; subst hay9; obtain ⟨p9, _⟩ := sh_at s9.z.s (L.length - 1) hk; obtain ⟨lt, c0, c1, c2, c3⟩ := s9.cells; go_simp <;> with_reducible rfl))
                                try simp only [Act.put, List.setIfInBounds_toArray, List.set_cons_zero, List.set_cons_succ]
                                refine wpAnyH_take (i := 23) (oi := { dst := some 138, op := Op.pick (Operand.tmp 124) (Operand.const (Value.bool true)) (Operand.tmp 137), type := 4, pos := "ref.go:338", after := #[{ on := 9, ground := Ground.data }, { on := 22, ground := Ground.data }, { on := 6, ground := Ground.guard }], guard := some (6, true) }) (v := ?_) rfl (by kernel_rfl) (by kernel_rfl) (by kernel_rfl) (fun _ _ _ h => h) (Or.inl ⟨by rfl, ?_⟩) (by trivial) ?_
                                rotate_left
                                (focus (intro w9 hSw; have s9 := hSw; obtain ⟨ay9, hay9, ⟨r0, r1, r2, r3, r4⟩, v0, v1, v2, v3, v4⟩ := yr_at s9.z.y; injection hay9 with hay9; subst hay9; obtain ⟨p9, _⟩ := sh_at s9.z.s (L.length - 1) hk; obtain ⟨lt, c0, c1, c2, c3⟩ := s9.cells; go_simp <;> with_reducible rfl))
                                try simp only [Act.put, List.setIfInBounds_toArray, List.set_cons_zero, List.set_cons_succ]
                                refine wpAnyH_take (i := 24) (oi := { dst := some 139, op := Op.pick (Operand.tmp 121) (Operand.tmp 138) (Operand.const (Value.bool false)), type := 4, pos := "ref.go:338", after := #[{ on := 6, ground := Ground.data }, { on := 23, ground := Ground.data }], guard := none }) (v := ?_) rfl (by kernel_rfl) (by kernel_rfl) (by kernel_rfl) (fun _ _ _ h => h) (Or.inl ⟨by rfl, ?_⟩) (by trivial) ?_
                                rotate_left
                                (focus (intro w9 hSw; have s9 := hSw; obtain ⟨ay9, hay9, ⟨r0, r1, r2, r3, r4⟩, v0, v1, v2, v3, v4⟩ := yr_at s9.z.y; injection hay9 with hay9; subst hay9; obtain ⟨p9, _⟩ := sh_at s9.z.s (L.length - 1) hk; obtain ⟨lt, c0, c1, c2, c3⟩ := s9.cells; go_simp <;> with_reducible rfl))
                                try simp only [Act.put, List.setIfInBounds_toArray, List.set_cons_zero, List.set_cons_succ]
                                refine wpAnyH_take (i := 25) (oi := { dst := some 2, op := Op.assign (Operand.tmp 139), type := 4, pos := "ref.go:338", after := #[{ on := 24, ground := Ground.data }, { on := 12, ground := Ground.chain }, { on := 0, ground := Ground.phase }, { on := 1, ground := Ground.phase }, { on := 2, ground := Ground.phase }, { on := 3, ground := Ground.phase }, { on := 4, ground := Ground.phase }, { on := 5, ground := Ground.phase }, { on := 6, ground := Ground.phase }, { on := 7, ground := Ground.phase }, { on := 8, ground := Ground.phase }, { on := 9, ground := Ground.phase }, { on := 10, ground := Ground.phase }, { on := 11, ground := Ground.phase }, { on := 12, ground := Ground.phase }, { on := 13, ground := Ground.phase }, { on := 14, ground := Ground.phase }, { on := 15, ground := Ground.phase }, { on := 16, ground := Ground.phase }, { on := 17, ground := Ground.phase }, { on := 18, ground := Ground.phase }, { on := 19, ground := Ground.phase }, { on := 20, ground := Ground.phase }, { on := 21, ground := Ground.phase }, { on := 22, ground := Ground.phase }, { on := 23, ground := Ground.phase }, { on := 24, ground := Ground.phase }], guard := none }) (v := ?_) rfl (by kernel_rfl) (by kernel_rfl) (by kernel_rfl) (fun _ _ _ h => h) (Or.inl ⟨by rfl, ?_⟩) (by trivial) ?_
                                rotate_left
                                (focus (intro w9 hSw; have s9 := hSw; obtain ⟨ay9, hay9, ⟨r0, r1, r2, r3, r4⟩, v0, v1, v2, v3, v4⟩ := yr_at s9.z.y; injection hay9 with hay9; subst hay9; obtain ⟨p9, _⟩ := sh_at s9.z.s (L.length - 1) hk; obtain ⟨lt, c0, c1, c2, c3⟩ := s9.cells; go_simp <;> with_reducible rfl))
                                try simp only [Act.put, List.setIfInBounds_toArray, List.set_cons_zero, List.set_cons_succ]
                                refine wpAnyH_done (by kernel_rfl) ?_ _
                                go_wp2_with fail
                                go_ret
                                exact ⟨by rw [mayZB_no fun h => absurd (hG.out.mp h.f.gap) (by omega)]; rfl, s.b⟩
                            · have d2t := decide_eq_false d2
                              go_wp2_with fail
                              replace s := s.drew
                              refine wp_region_held_drew (S := fun w9 => St w w9 w.heap.size bs (some ad) c (some ay) c' fr L [a, b]) (by kernel_rfl) s (fun _ => ?_)
                              refine wpAnyH_take (i := 0) (oi := { dst := some 115, op := Op.move (Operand.tmp 5), type := 3, pos := "ref.go:338", after := #[], guard := none }) (v := ?_) rfl (by kernel_rfl) (by kernel_rfl) (by kernel_rfl) (fun _ _ _ h => h) (Or.inl ⟨by rfl, ?_⟩) (by trivial) ?_
                              rotate_left
                              (focus (intro w9 hSw; have s9 := hSw; obtain ⟨ay9, hay9, ⟨r0, r1, r2, r3, r4⟩, v0, v1, v2, v3, v4⟩ := yr_at s9.z.y; injection hay9 with hay9; subst hay9; obtain ⟨p9, _⟩ := sh_at s9.z.s (L.length - 1) hk; obtain ⟨lt, c0, c1, c2, c3⟩ := s9.cells; go_simp <;> with_reducible rfl))
                              try simp only [Act.put, List.setIfInBounds_toArray, List.set_cons_zero, List.set_cons_succ]
                              refine wpAnyH_take (i := 1) (oi := { dst := some 116, op := Op.binOp BinOp.geq 3 (Operand.tmp 115) (Operand.const (Value.int IntKind.i64 2)) 3, type := 4, pos := "ref.go:338", after := #[{ on := 0, ground := Ground.data }], guard := none }) (v := ?_) rfl (by kernel_rfl) (by kernel_rfl) (by kernel_rfl) (fun _ _ _ h => h) (Or.inl ⟨by rfl, ?_⟩) (by trivial) ?_
                              rotate_left
                              (focus (intro w9 hSw; have s9 := hSw; obtain ⟨ay9, hay9, ⟨r0, r1, r2, r3, r4⟩, v0, v1, v2, v3, v4⟩ := yr_at s9.z.y; injection hay9 with hay9; subst hay9; obtain ⟨p9, _⟩ := sh_at s9.z.s (L.length - 1) hk; obtain ⟨lt, c0, c1, c2, c3⟩ := s9.cells; go_simp <;> with_reducible rfl))
                              try simp only [Act.put, List.setIfInBounds_toArray, List.set_cons_zero, List.set_cons_succ]
                              refine wpAnyH_take (i := 2) (oi := { dst := some 117, op := Op.move (Operand.tmp 116), type := 4, pos := "ref.go:338", after := #[{ on := 1, ground := Ground.data }], guard := none }) (v := ?_) rfl (by kernel_rfl) (by kernel_rfl) (by kernel_rfl) (fun _ _ _ h => h) (Or.inl ⟨by rfl, ?_⟩) (by trivial) ?_
                              rotate_left
                              (focus (intro w9 hSw; have s9 := hSw; obtain ⟨ay9, hay9, ⟨r0, r1, r2, r3, r4⟩, v0, v1, v2, v3, v4⟩ := yr_at s9.z.y; injection hay9 with hay9; subst hay9; obtain ⟨p9, _⟩ := sh_at s9.z.s (L.length - 1) hk; obtain ⟨lt, c0, c1, c2, c3⟩ := s9.cells; go_simp <;> with_reducible rfl))
                              try simp only [Act.put, List.setIfInBounds_toArray, List.set_cons_zero, List.set_cons_succ]
                              refine wpAnyH_take (i := 3) (oi := { dst := some 118, op := Op.move (Operand.tmp 5), type := 3, pos := "ref.go:338", after := #[{ on := 2, ground := Ground.guard }], guard := some (2, true) }) (v := ?_) rfl (by kernel_rfl) (by kernel_rfl) (by kernel_rfl) (fun _ _ _ h => h) (Or.inl ⟨by rfl, ?_⟩) (by trivial) ?_
                              rotate_left
                              (focus (intro w9 hSw; have s9 := hSw; obtain ⟨ay9, hay9, ⟨r0, r1, r2, r3, r4⟩, v0, v1, v2, v3, v4⟩ := yr_at s9.z.y; injection hay9 with hay9; subst hay9; obtain ⟨p9, _⟩ := sh_at s9.z.s (L.length - 1) hk; obtain ⟨lt, c0, c1, c2, c3⟩ := s9.cells; go_simp <;> with_reducible rfl))
                              try simp only [Act.put, List.setIfInBounds_toArray, List.set_cons_zero, List.set_cons_succ]
                              refine wpAnyH_take (i := 4) (oi := { dst := some 119, op := Op.binOp BinOp.leq 3 (Operand.tmp 118) (Operand.const (Value.int IntKind.i64 10)) 3, type := 4, pos := "ref.go:338", after := #[{ on := 3, ground := Ground.data }, { on := 2, ground := Ground.guard }], guard := some (2, true) }) (v := ?_) rfl (by kernel_rfl) (by kernel_rfl) (by kernel_rfl) (fun _ _ _ h => h) (Or.inl ⟨by rfl, ?_⟩) (by trivial) ?_
                              rotate_left
                              (focus (intro w9 hSw; have s9 := hSw; obtain ⟨ay9, hay9, ⟨r0, r1, r2, r3, r4⟩, v0, v1, v2, v3, v4⟩ := yr_at s9.z.y; injection hay9 with hay9; subst hay9; obtain ⟨p9, _⟩ := sh_at s9.z.s (L.length - 1) hk; obtain ⟨lt, c0, c1, c2, c3⟩ := s9.cells; go_simp <;> with_reducible rfl))
                              try simp only [Act.put, List.setIfInBounds_toArray, List.set_cons_zero, List.set_cons_succ]
                              refine wpAnyH_take (i := 5) (oi := { dst := some 120, op := Op.pick (Operand.tmp 117) (Operand.tmp 119) (Operand.const (Value.bool false)), type := 4, pos := "ref.go:338", after := #[{ on := 2, ground := Ground.data }, { on := 4, ground := Ground.data }], guard := none }) (v := ?_) rfl (by kernel_rfl) (by kernel_rfl) (by kernel_rfl) (fun _ _ _ h => h) (Or.inl ⟨by rfl, ?_⟩) (by trivial) ?_
                              rotate_left
                              (focus (intro w9 hSw; have s9 := hSw; obtain ⟨ay9, hay9, ⟨r0, r1, r2, r3, r4⟩, v0, v1, v2, v3, v4⟩ := yr_at s9.z.y; injection hay9 with hay9; subst hay9; obtain ⟨p9, _⟩ := sh_at s9.z.s (L.length - 1) hk; obtain ⟨lt, c0, c1, c2, c3⟩ := s9.cells; go_simp <;> with_reducible rfl))
                              try simp only [Act.put, List.setIfInBounds_toArray, List.set_cons_zero, List.set_cons_succ]
                              refine wpAnyH_take (i := 6) (oi := { dst := some 121, op := Op.move (Operand.tmp 120), type := 4, pos := "ref.go:338", after := #[{ on := 5, ground := Ground.data }, { on := 2, ground := Ground.chain }], guard := none }) (v := ?_) rfl (by kernel_rfl) (by kernel_rfl) (by kernel_rfl) (fun _ _ _ h => h) (Or.inl ⟨by rfl, ?_⟩) (by trivial) ?_
                              rotate_left
                              (focus (intro w9 hSw; have s9 := hSw; obtain ⟨ay9, hay9, ⟨r0, r1, r2, r3, r4⟩, v0, v1, v2, v3, v4⟩ := yr_at s9.z.y; injection hay9 with hay9; subst hay9; obtain ⟨p9, _⟩ := sh_at s9.z.s (L.length - 1) hk; obtain ⟨lt, c0, c1, c2, c3⟩ := s9.cells; go_simp <;> with_reducible rfl))
                              try simp only [Act.put, List.setIfInBounds_toArray, List.set_cons_zero, List.set_cons_succ]
                              refine wpAnyH_take (i := 7) (oi := { dst := some 122, op := Op.move (Operand.tmp 6), type := 3, pos := "ref.go:338", after := #[{ on := 6, ground := Ground.guard }], guard := some (6, true) }) (v := undef) rfl (by kernel_rfl) (by kernel_rfl) (by kernel_rfl) (fun _ _ _ h => h) (Or.inr ⟨by rfl, rfl⟩) (by trivial) ?_
                              try simp only [Act.put, List.setIfInBounds_toArray, List.set_cons_zero, List.set_cons_succ]
                              refine wpAnyH_take (i := 8) (oi := { dst := some 123, op := Op.binOp BinOp.eql 3 (Operand.tmp 122) (Operand.const (Value.int IntKind.i64 0)) 3, type := 4, pos := "ref.go:338", after := #[{ on := 7, ground := Ground.data }, { on := 6, ground := Ground.guard }], guard := some (6, true) }) (v := undef) rfl (by kernel_rfl) (by kernel_rfl) (by kernel_rfl) (fun _ _ _ h => h) (Or.inr ⟨by rfl, rfl⟩) (by trivial) ?_
                              try simp only [Act.put, List.setIfInBounds_toArray, List.set_cons_zero, List.set_cons_succ]
                              refine wpAnyH_take (i := 9) (oi := { dst := some 124, op := Op.move (Operand.tmp 123), type := 4, pos := "ref.go:338", after := #[{ on := 8, ground := Ground.data }, { on := 6, ground := Ground.chain }, { on := 6, ground := Ground.guard }], guard := some (6, true) }) (v := undef) rfl (by kernel_rfl) (by kernel_rfl) (by kernel_rfl) (fun _ _ _ h => h) (Or.inr ⟨by rfl, rfl⟩) (by trivial) ?_
                              try simp only [Act.put, List.setIfInBounds_toArray, List.set_cons_zero, List.set_cons_succ]
                              refine wpAnyH_take (i := 10) (oi := { dst := some 125, op := Op.fieldAddr 25 (Operand.tmp 1) 3, type := 0, pos := "ref.go:338", after := #[{ on := 9, ground := Ground.guard }], guard := some (9, false) }) (v := undef) rfl (by kernel_rfl) (by kernel_rfl) (by kernel_rfl) (fun _ _ _ h => h) (Or.inr ⟨by rfl, rfl⟩) (by trivial) ?_
                              try simp only [Act.put, List.setIfInBounds_toArray, List.set_cons_zero, List.set_cons_succ]
                              refine wpAnyH_take (i := 11) (oi := { dst := some 126, op := Op.load 3 (Operand.tmp 125), type := 3, pos := "ref.go:338", after := #[{ on := 10, ground := Ground.data }, { on := 9, ground := Ground.guard }], guard := some (9, false) }) (v := undef) rfl (by kernel_rfl) (by kernel_rfl) (by kernel_rfl) (fun _ _ _ h => h) (Or.inr ⟨by rfl, rfl⟩) (by trivial) ?_
                              try simp only [Act.put, List.setIfInBounds_toArray, List.set_cons_zero, List.set_cons_succ]
                              refine wpAnyH_take (i := 12) (oi := { dst := some 127, op := Op.call { callee := Callee.value (Operand.func 40), args := #[Operand.tmp 126], argTypes := #[3] }, type := 3, pos := "ref.go:338", after := #[{ on := 11, ground := Ground.data }, { on := 9, ground := Ground.chain }, { on := 9, ground := Ground.guard }], guard := some (9, false) }) (v := undef) rfl (by kernel_rfl) (by kernel_rfl) (by kernel_rfl) (fun _ _ _ h => h) (Or.inr ⟨by rfl, rfl⟩) (by trivial) ?_
                              try simp only [Act.put, List.setIfInBounds_toArray, List.set_cons_zero, List.set_cons_succ]
                              refine wpAnyH_take (i := 13) (oi := { dst := some 128, op := Op.binOp BinOp.mul 3 (Operand.tmp 127) (Operand.const (Value.int IntKind.i64 86400)) 3, type := 3, pos := "ref.go:338", after := #[{ on := 12, ground := Ground.data }, { on := 9, ground := Ground.guard }], guard := some (9, false) }) (v := undef) rfl (by kernel_rfl) (by kernel_rfl) (by kernel_rfl) (fun _ _ _ h => h) (Or.inr ⟨by rfl, rfl⟩) (by trivial) ?_
                              try simp only [Act.put, List.setIfInBounds_toArray, List.set_cons_zero, List.set_cons_succ]
                              refine wpAnyH_take (i := 14) (oi := { dst := some 129, op := Op.fieldAddr 25 (Operand.tmp 1) 1, type := 0, pos := "ref.go:338", after := #[{ on := 9, ground := Ground.guard }], guard := some (9, false) }) (v := undef) rfl (by kernel_rfl) (by kernel_rfl) (by kernel_rfl) (fun _ _ _ h => h) (Or.inr ⟨by rfl, rfl⟩) (by trivial) ?_
                              try simp only [Act.put, List.setIfInBounds_toArray, List.set_cons_zero, List.set_cons_succ]
                              refine wpAnyH_take (i := 15) (oi := { dst := some 130, op := Op.load 22 (Operand.tmp 129), type := 22, pos := "ref.go:338", after := #[{ on := 14, ground := Ground.data }, { on := 9, ground := Ground.guard }], guard := some (9, false) }) (v := undef) rfl (by kernel_rfl) (by kernel_rfl) (by kernel_rfl) (fun _ _ _ h => h) (Or.inr ⟨by rfl, rfl⟩) (by trivial) ?_
                              try simp only [Act.put, List.setIfInBounds_toArray, List.set_cons_zero, List.set_cons_succ]
                              refine wpAnyH_take (i := 16) (oi := { dst := some 131, op := Op.move (Operand.tmp 6), type := 3, pos := "ref.go:338", after := #[{ on := 9, ground := Ground.guard }], guard := some (9, false) }) (v := undef) rfl (by kernel_rfl) (by kernel_rfl) (by kernel_rfl) (fun _ _ _ h => h) (Or.inr ⟨by rfl, rfl⟩) (by trivial) ?_
                              try simp only [Act.put, List.setIfInBounds_toArray, List.set_cons_zero, List.set_cons_succ]
                              refine wpAnyH_take (i := 17) (oi := { dst := some 132, op := Op.binOp BinOp.sub 3 (Operand.tmp 131) (Operand.const (Value.int IntKind.i64 1)) 3, type := 3, pos := "ref.go:338", after := #[{ on := 16, ground := Ground.data }, { on := 9, ground := Ground.guard }], guard := some (9, false) }) (v := undef) rfl (by kernel_rfl) (by kernel_rfl) (by kernel_rfl) (fun _ _ _ h => h) (Or.inr ⟨by rfl, rfl⟩) (by trivial) ?_
                              try simp only [Act.put, List.setIfInBounds_toArray, List.set_cons_zero, List.set_cons_succ]
                              refine wpAnyH_take (i := 18) (oi := { dst := some 133, op := Op.indexAddr 22 (Operand.tmp 130) (Operand.tmp 132), type := 0, pos := "ref.go:338", after := #[{ on := 15, ground := Ground.data }, { on := 17, ground := Ground.data }, { on := 9, ground := Ground.guard }], guard := some (9, false) }) (v := undef) rfl (by kernel_rfl) (by kernel_rfl) (by kernel_rfl) (fun _ _ _ h => h) (Or.inr ⟨by rfl, rfl⟩) (by trivial) ?_
                              try simp only [Act.put, List.setIfInBounds_toArray, List.set_cons_zero, List.set_cons_succ]
                              refine wpAnyH_take (i := 19) (oi := { dst := some 134, op := Op.fieldAddr 29 (Operand.tmp 133) 0, type := 0, pos := "ref.go:338", after := #[{ on := 18, ground := Ground.data }, { on := 9, ground := Ground.guard }], guard := some (9, false) }) (v := undef) rfl (by kernel_rfl) (by kernel_rfl) (by kernel_rfl) (fun _ _ _ h => h) (Or.inr ⟨by rfl, rfl⟩) (by trivial) ?_
                              try simp only [Act.put, List.setIfInBounds_toArray, List.set_cons_zero, List.set_cons_succ]
                              refine wpAnyH_take (i := 20) (oi := { dst := some 135, op := Op.load 3 (Operand.tmp 134), type := 3, pos := "ref.go:338", after := #[{ on := 19, ground := Ground.data }, { on := 9, ground := Ground.guard }], guard := some (9, false) }) (v := undef) rfl (by kernel_rfl) (by kernel_rfl) (by kernel_rfl) (fun _ _ _ h => h) (Or.inr ⟨by rfl, rfl⟩) (by trivial) ?_
                              try simp only [Act.put, List.setIfInBounds_toArray, List.set_cons_zero, List.set_cons_succ]
                              refine wpAnyH_take (i := 21) (oi := { dst := some 136, op := Op.binOp BinOp.sub 3 (Operand.tmp 128) (Operand.tmp 135) 3, type := 3, pos := "ref.go:338", after := #[{ on := 13, ground := Ground.data }, { on := 20, ground := Ground.data }, { on := 9, ground := Ground.guard }], guard := some (9, false) }) (v := undef) rfl (by kernel_rfl) (by kernel_rfl) (by kernel_rfl) (fun _ _ _ h => h) (Or.inr ⟨by rfl, rfl⟩) (by trivial) ?_
                              try simp only [Act.put, List.setIfInBounds_toArray, List.set_cons_zero, List.set_cons_succ]
                              refine wpAnyH_take (i := 22) (oi := { dst := some 137, op := Op.binOp BinOp.geq 3 (Operand.tmp 136) (Operand.const (Value.int IntKind.i64 200000)) 3, type := 4, pos := "ref.go:338", after := #[{ on := 21, ground := Ground.data }, { on := 9, ground := Ground.guard }], guard := some (9, false) }) (v := undef) rfl (by kernel_rfl) (by kernel_rfl) (by kernel_rfl) (fun _ _ _ h => h) (Or.inr ⟨by rfl, rfl⟩) (by trivial) ?_
                              try simp only [Act.put, List.setIfInBounds_toArray, List.set_cons_zero, List.set_cons_succ]
                              refine wpAnyH_take (i := 23) (oi := { dst := some 138, op := Op.pick (Operand.tmp 124) (Operand.const (Value.bool true)) (Operand.tmp 137), type := 4, pos := "ref.go:338", after := #[{ on := 9, ground := Ground.data }, { on := 22, ground := Ground.data }, { on := 6, ground := Ground.guard }], guard := some (6, true) }) (v := undef) rfl (by kernel_rfl) (by kernel_rfl) (by kernel_rfl) (fun _ _ _ h => h) (Or.inr ⟨by rfl, rfl⟩) (by trivial) ?_
                              try simp only [Act.put, List.setIfInBounds_toArray, List.set_cons_zero, List.set_cons_succ]
                              refine wpAnyH_take (i := 24) (oi := { dst := some 139, op := Op.pick (Operand.tmp 121) (Operand.tmp 138) (Operand.const (Value.bool false)), type := 4, pos := "ref.go:338", after := #[{ on := 6, ground := Ground.data }, { on := 23, ground := Ground.data }], guard := none }) (v := ?_) rfl (by kernel_rfl) (by kernel_rfl) (by kernel_rfl) (fun _ _ _ h => h) (Or.inl ⟨by rfl, ?_⟩) (by trivial) ?_
                              rotate_left
                              (focus (intro w9 hSw; have s9 := hSw; obtain ⟨ay9, hay9, ⟨r0, r1, r2, r3, r4⟩, v0, v1, v2, v3, v4⟩ := yr_at s9.z.y; injection hay9 with hay9; subst hay9; obtain ⟨p9, _⟩ := sh_at s9.z.s (L.length - 1) hk; obtain ⟨lt, c0, c1, c2, c3⟩ := s9.cells; go_simp <;> with_reducible rfl))
                              try simp only [Act.put, List.setIfInBounds_toArray, List.set_cons_zero, List.set_cons_succ]
                              refine wpAnyH_take (i := 25) (oi := { dst := some 2, op := Op.assign (Operand.tmp 139), type := 4, pos := "ref.go:338", after := #[{ on := 24, ground := Ground.data }, { on := 12, ground := Ground.chain }, { on := 0, ground := Ground.phase }, { on := 1, ground := Ground.phase }, { on := 2, ground := Ground.phase }, { on := 3, ground := Ground.phase }, { on := 4, ground := Ground.phase }, { on := 5, ground := Ground.phase }, { on := 6, ground := Ground.phase }, { on := 7, ground := Ground.phase }, { on := 8, ground := Ground.phase }, { on := 9, ground := Ground.phase }, { on := 10, ground := Ground.phase }, { on := 11, ground := Ground.phase }, { on := 12, ground := Ground.phase }, { on := 13, ground := Ground.phase }, { on := 14, ground := Ground.phase }, { on := 15, ground := Ground.phase }, { on := 16, ground := Ground.phase }, { on := 17, ground := Ground.phase }, { on := 18, ground := Ground.phase }, { on := 19, ground := Ground.phase }, { on := 20, ground := Ground.phase }, { on := 21, ground := Ground.phase }, { on := 22, ground := Ground.phase }, { on := 23, ground := Ground.phase }, { on := 24, ground := Ground.phase }], guard := none }) (v := ?_) rfl (by kernel_rfl) (by kernel_rfl) (by kernel_rfl) (fun _ _ _ h => h) (Or.inl ⟨by rfl, ?_⟩) (by trivial) ?_
                              rotate_left
                              (focus (intro w9 hSw; have s9 := hSw; obtain ⟨ay9, hay9, ⟨r0, r1, r2, r3, r4⟩, v0, v1, v2, v3, v4⟩ := yr_at s9.z.y; injection hay9 with hay9; subst hay9; obtain ⟨p9, _⟩ := sh_at s9.z.s (L.length - 1) hk; obtain ⟨lt, c0, c1, c2, c3⟩ := s9.cells; go_simp <;> with_reducible rfl))
                              try simp only [Act.put, List.setIfInBounds_toArray, List.set_cons_zero, List.set_cons_succ]
                              refine wpAnyH_done (by kernel_rfl) ?_ _
                              go_wp2_with fail
                              go_ret
                              exact ⟨by rw [mayZB_no fun h => absurd h.f.y.hi (by omega)]; rfl, s.b⟩
                          · have d1t := decide_eq_false d1
                            go_wp2_with fail
                            replace s := s.drew
                            refine wp_region_held_drew (S := fun w9 => St w w9 w.heap.size bs (some ad) c (some ay) c' fr L [a, b]) (by kernel_rfl) s (fun _ => ?_)
                            refine wpAnyH_take (i := 0) (oi := { dst := some 115, op := Op.move (Operand.tmp 5), type := 3, pos := "ref.go:338", after := #[], guard := none }) (v := ?_) rfl (by kernel_rfl) (by kernel_rfl) (by kernel_rfl) (fun _ _ _ h => h) (Or.inl ⟨by rfl, ?_⟩) (by trivial) ?_
                            rotate_left
                            (focus (intro w9 hSw; have s9 := hSw; obtain ⟨ay9, hay9, ⟨r0, r1, r2, r3, r4⟩, v0, v1, v2, v3, v4⟩ := yr_at s9.z.y; injection hay9 with hay9; subst hay9; obtain ⟨p9, _⟩ := sh_at s9.z.s (L.length - 1) hk; obtain ⟨lt, c0, c1, c2, c3⟩ := s9.cells; go_simp <;> with_reducible rfl))
                            try simp only [Act.put, List.setIfInBounds_toArray, List.set_cons_zero, List.set_cons_succ]
                            refine wpAnyH_take (i := 1) (oi := { dst := some 116, op := Op.binOp BinOp.geq 3 (Operand.tmp 115) (Operand.const (Value.int IntKind.i64 2)) 3, type := 4, pos := "ref.go:338", after := #[{ on := 0, ground := Ground.data }], guard := none }) (v := ?_) rfl (by kernel_rfl) (by kernel_rfl) (by kernel_rfl) (fun _ _ _ h => h) (Or.inl ⟨by rfl, ?_⟩) (by trivial) ?_
                            rotate_left
                            (focus (intro w9 hSw; have s9 := hSw; obtain ⟨ay9, hay9, ⟨r0, r1, r2, r3, r4⟩, v0, v1, v2, v3, v4⟩ := yr_at s9.z.y; injection hay9 with hay9; subst hay9; obtain ⟨p9, _⟩ := sh_at s9.z.s (L.length - 1) hk; obtain ⟨lt, c0, c1, c2, c3⟩ := s9.cells; go_simp <;> with_reducible rfl))
                            try simp only [Act.put, List.setIfInBounds_toArray, List.set_cons_zero, List.set_cons_succ]
                            refine wpAnyH_take (i := 2) (oi := { dst := some 117, op := Op.move (Operand.tmp 116), type := 4, pos := "ref.go:338", after := #[{ on := 1, ground := Ground.data }], guard := none }) (v := ?_) rfl (by kernel_rfl) (by kernel_rfl) (by kernel_rfl) (fun _ _ _ h => h) (Or.inl ⟨by rfl, ?_⟩) (by trivial) ?_
                            rotate_left
                            (focus (intro w9 hSw; have s9 := hSw; obtain ⟨ay9, hay9, ⟨r0, r1, r2, r3, r4⟩, v0, v1, v2, v3, v4⟩ := yr_at s9.z.y; injection hay9 with hay9; subst hay9; obtain ⟨p9, _⟩ := sh_at s9.z.s (L.length - 1) hk; obtain ⟨lt, c0, c1, c2, c3⟩ := s9.cells; go_simp <;> with_reducible rfl))
                            try simp only [Act.put, List.setIfInBounds_toArray, List.set_cons_zero, List.set_cons_succ]
                            refine wpAnyH_take (i := 3) (oi := { dst := some 118, op := Op.move (Operand.tmp 5), type := 3, pos := "ref.go:338", after := #[{ on := 2, ground := Ground.guard }], guard := some (2, true) }) (v := undef) rfl (by kernel_rfl) (by kernel_rfl) (by kernel_rfl) (fun _ _ _ h => h) (Or.inr ⟨by rfl, rfl⟩) (by trivial) ?_
                            try simp only [Act.put, List.setIfInBounds_toArray, List.set_cons_zero, List.set_cons_succ]
                            refine wpAnyH_take (i := 4) (oi := { dst := some 119, op := Op.binOp BinOp.leq 3 (Operand.tmp 118) (Operand.const (Value.int IntKind.i64 10)) 3, type := 4, pos := "ref.go:338", after := #[{ on := 3, ground := Ground.data }, { on := 2, ground := Ground.guard }], guard := some (2, true) }) (v := undef) rfl (by kernel_rfl) (by kernel_rfl) (by kernel_rfl) (fun _ _ _ h => h) (Or.inr ⟨by rfl, rfl⟩) (by trivial) ?_
                            try simp only [Act.put, List.setIfInBounds_toArray, List.set_cons_zero, List.set_cons_succ]
                            refine wpAnyH_take (i := 5) (oi := { dst := some 120, op := Op.pick (Operand.tmp 117) (Operand.tmp 119) (Operand.const (Value.bool false)), type := 4, pos := "ref.go:338", after := #[{ on := 2, ground := Ground.data }, { on := 4, ground := Ground.data }], guard := none }) (v := ?_) rfl (by kernel_rfl) (by kernel_rfl) (by kernel_rfl) (fun _ _ _ h => h) (Or.inl ⟨by rfl, ?_⟩) (by trivial) ?_
                            rotate_left
                            (focus (intro w9 hSw; have s9 := hSw; obtain ⟨ay9, hay9, ⟨r0, r1, r2, r3, r4⟩, v0, v1, v2, v3, v4⟩ := yr_at s9.z.y; injection hay9 with hay9; subst hay9; obtain ⟨p9, _⟩ := sh_at s9.z.s (L.length - 1) hk; obtain ⟨lt, c0, c1, c2, c3⟩ := s9.cells; go_simp <;> with_reducible rfl))
                            try simp only [Act.put, List.setIfInBounds_toArray, List.set_cons_zero, List.set_cons_succ]
                            refine wpAnyH_take (i := 6) (oi := { dst := some 121, op := Op.move (Operand.tmp 120), type := 4, pos := "ref.go:338", after := #[{ on := 5, ground := Ground.data }, { on := 2, ground := Ground.chain }], guard := none }) (v := ?_) rfl (by kernel_rfl) (by kernel_rfl) (by kernel_rfl) (fun _ _ _ h => h) (Or.inl ⟨by rfl, ?_⟩) (by trivial) ?_
                            rotate_left
                            (focus (intro w9 hSw; have s9 := hSw; obtain ⟨ay9, hay9, ⟨r0, r1, r2, r3, r4⟩, v0, v1, v2, v3, v4⟩ := yr_at s9.z.y; injection hay9 with hay9; subst hay9; obtain ⟨p9, _⟩ := sh_at s9.z.s (L.length - 1) hk; obtain ⟨lt, c0, c1, c2, c3⟩ := s9.cells; go_simp <;> with_reducible rfl))
                            try simp only [Act.put, List.setIfInBounds_toArray, List.set_cons_zero, List.set_cons_succ]
                            refine wpAnyH_take (i := 7) (oi := { dst := some 122, op := Op.move (Operand.tmp 6), type := 3, pos := "ref.go:338", after := #[{ on := 6, ground := Ground.guard }], guard := some (6, true) }) (v := undef) rfl (by kernel_rfl) (by kernel_rfl) (by kernel_rfl) (fun _ _ _ h => h) (Or.inr ⟨by rfl, rfl⟩) (by trivial) ?_
                            try simp only [Act.put, List.setIfInBounds_toArray, List.set_cons_zero, List.set_cons_succ]
                            refine wpAnyH_take (i := 8) (oi := { dst := some 123, op := Op.binOp BinOp.eql 3 (Operand.tmp 122) (Operand.const (Value.int IntKind.i64 0)) 3, type := 4, pos := "ref.go:338", after := #[{ on := 7, ground := Ground.data }, { on := 6, ground := Ground.guard }], guard := some (6, true) }) (v := undef) rfl (by kernel_rfl) (by kernel_rfl) (by kernel_rfl) (fun _ _ _ h => h) (Or.inr ⟨by rfl, rfl⟩) (by trivial) ?_
                            try simp only [Act.put, List.setIfInBounds_toArray, List.set_cons_zero, List.set_cons_succ]
                            refine wpAnyH_take (i := 9) (oi := { dst := some 124, op := Op.move (Operand.tmp 123), type := 4, pos := "ref.go:338", after := #[{ on := 8, ground := Ground.data }, { on := 6, ground := Ground.chain }, { on := 6, ground := Ground.guard }], guard := some (6, true) }) (v := undef) rfl (by kernel_rfl) (by kernel_rfl) (by kernel_rfl) (fun _ _ _ h => h) (Or.inr ⟨by rfl, rfl⟩) (by trivial) ?_
                            try simp only [Act.put, List.setIfInBounds_toArray, List.set_cons_zero, List.set_cons_succ]
                            refine wpAnyH_take (i := 10) (oi := { dst := some 125, op := Op.fieldAddr 25 (Operand.tmp 1) 3, type := 0, pos := "ref.go:338", after := #[{ on := 9, ground := Ground.guard }], guard := some (9, false) }) (v := undef) rfl (by kernel_rfl) (by kernel_rfl) (by kernel_rfl) (fun _ _ _ h => h) (Or.inr ⟨by rfl, rfl⟩) (by trivial) ?_
                            try simp only [Act.put, List.setIfInBounds_toArray, List.set_cons_zero, List.set_cons_succ]
                            refine wpAnyH_take (i := 11) (oi := { dst := some 126, op := Op.load 3 (Operand.tmp 125), type := 3, pos := "ref.go:338", after := #[{ on := 10, ground := Ground.data }, { on := 9, ground := Ground.guard }], guard := some (9, false) }) (v := undef) rfl (by kernel_rfl) (by kernel_rfl) (by kernel_rfl) (fun _ _ _ h => h) (Or.inr ⟨by rfl, rfl⟩) (by trivial) ?_
                            try simp only [Act.put, List.setIfInBounds_toArray, List.set_cons_zero, List.set_cons_succ]
                            refine wpAnyH_take (i := 12) (oi := { dst := some 127, op := Op.call { callee := Callee.value (Operand.func 40), args := #[Operand.tmp 126], argTypes := #[3] }, type := 3, pos := "ref.go:338", after := #[{ on := 11, ground := Ground.data }, { on := 9, ground := Ground.chain }, { on := 9, ground := Ground.guard }], guard := some (9, false) }) (v := undef) rfl (by kernel_rfl) (by kernel_rfl) (by kernel_rfl) (fun _ _ _ h => h) (Or.inr ⟨by rfl, rfl⟩) (by trivial) ?_
                            try simp only [Act.put, List.setIfInBounds_toArray, List.set_cons_zero, List.set_cons_succ]
                            refine wpAnyH_take (i := 13) (oi := { dst := some 128, op := Op.binOp BinOp.mul 3 (Operand.tmp 127) (Operand.const (Value.int IntKind.i64 86400)) 3, type := 3, pos := "ref.go:338", after := #[{ on := 12, ground := Ground.data }, { on := 9, ground := Ground.guard }], guard := some (9, false) }) (v := undef) rfl (by kernel_rfl) (by kernel_rfl) (by kernel_rfl) (fun _ _ _ h => h) (Or.inr ⟨by rfl, rfl⟩) (by trivial) ?_
                            try simp only [Act.put, List.setIfInBounds_toArray, List.set_cons_zero, List.set_cons_succ]
                            refine wpAnyH_take (i := 14) (oi := { dst := some 129, op := Op.fieldAddr 25 (Operand.tmp 1) 1, type := 0, pos := "ref.go:338", after := #[{ on := 9, ground := Ground.guard }], guard := some (9, false) }) (v := undef) rfl (by kernel_rfl) (by kernel_rfl) (by kernel_rfl) (fun _ _ _ h => h) (Or.inr ⟨by rfl, rfl⟩) (by trivial) ?_
                            try simp only [Act.put, List.setIfInBounds_toArray, List.set_cons_zero, List.set_cons_succ]
                            refine wpAnyH_take (i := 15) (oi := { dst := some 130, op := Op.load 22 (Operand.tmp 129), type := 22, pos := "ref.go:338", after := #[{ on := 14, ground := Ground.data }, { on := 9, ground := Ground.guard }], guard := some (9, false) }) (v := undef) rfl (by kernel_rfl) (by kernel_rfl) (by kernel_rfl) (fun _ _ _ h => h) (Or.inr ⟨by rfl, rfl⟩) (by trivial) ?_
                            try simp only [Act.put, List.setIfInBounds_toArray, List.set_cons_zero, List.set_cons_succ]
                            refine wpAnyH_take (i := 16) (oi := { dst := some 131, op := Op.move (Operand.tmp 6), type := 3, pos := "ref.go:338", after := #[{ on := 9, ground := Ground.guard }], guard := some (9, false) }) (v := undef) rfl (by kernel_rfl) (by kernel_rfl) (by kernel_rfl) (fun _ _ _ h => h) (Or.inr ⟨by rfl, rfl⟩) (by trivial) ?_
                            try simp only [Act.put, List.setIfInBounds_toArray, List.set_cons_zero, List.set_cons_succ]
                            refine wpAnyH_take (i := 17) (oi := { dst := some 132, op := Op.binOp BinOp.sub 3 (Operand.tmp 131) (Operand.const (Value.int IntKind.i64 1)) 3, type := 3, pos := "ref.go:338", after := #[{ on := 16, ground := Ground.data }, { on := 9, ground := Ground.guard }], guard := some (9, false) }) (v := undef) rfl (by kernel_rfl) (by kernel_rfl) (by kernel_rfl) (fun _ _ _ h => h) (Or.inr ⟨by rfl, rfl⟩) (by trivial) ?_
                            try simp only [Act.put, List.setIfInBounds_toArray, List.set_cons_zero, List.set_cons_succ]
                            refine wpAnyH_take (i := 18) (oi := { dst := some 133, op := Op.indexAddr 22 (Operand.tmp 130) (Operand.tmp 132), type := 0, pos := "ref.go:338", after := #[{ on := 15, ground := Ground.data }, { on := 17, ground := Ground.data }, { on := 9, ground := Ground.guard }], guard := some (9, false) }) (v := undef) rfl (by kernel_rfl) (by kernel_rfl) (by kernel_rfl) (fun _ _ _ h => h) (Or.inr ⟨by rfl, rfl⟩) (by trivial) ?_
                            try simp only [Act.put, List.setIfInBounds_toArray, List.set_cons_zero, List.set_cons_succ]
                            refine wpAnyH_take (i := 19) (oi := { dst := some 134, op := Op.fieldAddr 29 (Operand.tmp 133) 0, type := 0, pos := "ref.go:338", after := #[{ on := 18, ground := Ground.data }, { on := 9, ground := Ground.guard }], guard := some (9, false) }) (v := undef) rfl (by kernel_rfl) (by kernel_rfl) (by kernel_rfl) (fun _ _ _ h => h) (Or.inr ⟨by rfl, rfl⟩) (by trivial) ?_
                            try simp only [Act.put, List.setIfInBounds_toArray, List.set_cons_zero, List.set_cons_succ]
                            refine wpAnyH_take (i := 20) (oi := { dst := some 135, op := Op.load 3 (Operand.tmp 134), type := 3, pos := "ref.go:338", after := #[{ on := 19, ground := Ground.data }, { on := 9, ground := Ground.guard }], guard := some (9, false) }) (v := undef) rfl (by kernel_rfl) (by kernel_rfl) (by kernel_rfl) (fun _ _ _ h => h) (Or.inr ⟨by rfl, rfl⟩) (by trivial) ?_
                            try simp only [Act.put, List.setIfInBounds_toArray, List.set_cons_zero, List.set_cons_succ]
                            refine wpAnyH_take (i := 21) (oi := { dst := some 136, op := Op.binOp BinOp.sub 3 (Operand.tmp 128) (Operand.tmp 135) 3, type := 3, pos := "ref.go:338", after := #[{ on := 13, ground := Ground.data }, { on := 20, ground := Ground.data }, { on := 9, ground := Ground.guard }], guard := some (9, false) }) (v := undef) rfl (by kernel_rfl) (by kernel_rfl) (by kernel_rfl) (fun _ _ _ h => h) (Or.inr ⟨by rfl, rfl⟩) (by trivial) ?_
                            try simp only [Act.put, List.setIfInBounds_toArray, List.set_cons_zero, List.set_cons_succ]
                            refine wpAnyH_take (i := 22) (oi := { dst := some 137, op := Op.binOp BinOp.geq 3 (Operand.tmp 136) (Operand.const (Value.int IntKind.i64 200000)) 3, type := 4, pos := "ref.go:338", after := #[{ on := 21, ground := Ground.data }, { on := 9, ground := Ground.guard }], guard := some (9, false) }) (v := undef) rfl (by kernel_rfl) (by kernel_rfl) (by kernel_rfl) (fun _ _ _ h => h) (Or.inr ⟨by rfl, rfl⟩) (by trivial) ?_
                            try simp only [Act.put, List.setIfInBounds_toArray, List.set_cons_zero, List.set_cons_succ]
                            refine wpAnyH_take (i := 23) (oi := { dst := some 138, op := Op.pick (Operand.tmp 124) (Operand.const (Value.bool true)) (Operand.tmp 137), type := 4, pos := "ref.go:338", after := #[{ on := 9, ground := Ground.data }, { on := 22, ground := Ground.data }, { on := 6, ground := Ground.guard }], guard := some (6, true) }) (v := undef) rfl (by kernel_rfl) (by kernel_rfl) (by kernel_rfl) (fun _ _ _ h => h) (Or.inr ⟨by rfl, rfl⟩) (by trivial) ?_
                            try simp only [Act.put, List.setIfInBounds_toArray, List.set_cons_zero, List.set_cons_succ]
                            refine wpAnyH_take (i := 24) (oi := { dst := some 139, op := Op.pick (Operand.tmp 121) (Operand.tmp 138) (Operand.const (Value.bool false)), type := 4, pos := "ref.go:338", after := #[{ on := 6, ground := Ground.data }, { on := 23, ground := Ground.data }], guard := none }) (v := ?_) rfl (by kernel_rfl) (by kernel_rfl) (by kernel_rfl) (fun _ _ _ h => h) (Or.inl ⟨by rfl, ?_⟩) (by trivial) ?_
                            rotate_left
                            (focus (intro w9 hSw; have s9 := hSw; obtain ⟨ay9, hay9, ⟨r0, r1, r2, r3, r4⟩, v0, v1, v2, v3, v4⟩ := yr_at s9.z.y; injection hay9 with hay9; subst hay9; obtain ⟨p9, _⟩ := sh_at s9.z.s (L.length - 1) hk; obtain ⟨lt, c0, c1, c2, c3⟩ := s9.cells; go_simp <;> with_reducible rfl))
                            try simp only [Act.put, List.setIfInBounds_toArray, List.set_cons_zero, List.set_cons_succ]
                            refine wpAnyH_take (i := 25) (oi := { dst := some 2, op := Op.assign (Operand.tmp 139), type := 4, pos := "ref.go:338", after := #[{ on := 24, ground := Ground.data }, { on := 12, ground := Ground.chain }, { on := 0, ground := Ground.phase }, { on := 1, ground := Ground.phase }, { on := 2, ground := Ground.phase }, { on := 3, ground := Ground.phase }, { on := 4, ground := Ground.phase }, { on := 5, ground := Ground.phase }, { on := 6, ground := Ground.phase }, { on := 7, ground := Ground.phase }, { on := 8, ground := Ground.phase }, { on := 9, ground := Ground.phase }, { on := 10, ground := Ground.phase }, { on := 11, ground := Ground.phase }, { on := 12, ground := Ground.phase }, { on := 13, ground := Ground.phase }, { on := 14, ground := Ground.phase }, { on := 15, ground := Ground.phase }, { on := 16, ground := Ground.phase }, { on := 17, ground := Ground.phase }, { on := 18, ground := Ground.phase }, { on := 19, ground := Ground.phase }, { on := 20, ground := Ground.phase }, { on := 21, ground := Ground.phase }, { on := 22, ground := Ground.phase }, { on := 23, ground := Ground.phase }, { on := 24, ground := Ground.phase }], guard := none }) (v := ?_) rfl (by kernel_rfl) (by kernel_rfl) (by kernel_rfl) (fun _ _ _ h => h) (Or.inl ⟨by rfl, ?_⟩) (by trivial) ?_
                            rotate_left
                            (focus (intro w9 hSw; have s9 := hSw; obtain ⟨ay9, hay9, ⟨r0, r1, r2, r3, r4⟩, v0, v1, v2, v3, v4⟩ := yr_at s9.z.y; injection hay9 with hay9; subst hay9; obtain ⟨p9, _⟩ := sh_at s9.z.s (L.length - 1) hk; obtain ⟨lt, c0, c1, c2, c3⟩ := s9.cells; go_simp <;> with_reducible rfl))
                            try simp only [Act.put, List.setIfInBounds_toArray, List.set_cons_zero, List.set_cons_succ]
                            refine wpAnyH_done (by kernel_rfl) ?_ _
                            go_wp2_with fail
                            go_ret
                            exact ⟨by rw [mayZB_no fun h => absurd h.f.y.lo (by omega)]; rfl, s.b⟩
                  · rw [rightB_no kb]
                    go_wp2_with fail
                    go_ret
                    exact ⟨by rw [mayZB_no fun h => kb h.f.y.fb]; rfl, s.b⟩
                · rw [rightB_no ka]
                  go_wp2_with fail
                  go_ret
                  exact ⟨by rw [mayZB_no fun h => ka h.f.y.fa]; rfl, s.b⟩
              · have t0 : ((Y.length : Int) == 0) = false := by rw [beq_eq_false_iff_ne]; omega
                have t2 : ((Y.length : Int) != 2) = true := by rw [bne_iff_ne]; omega
                go_wp2_with fail
                go_ret
                exact ⟨by rw [mayZB_no fun h => by rcases h.yr with h | ⟨a, b, h⟩; · exact y0 (by rw [h.1]; rfl)
                                                   · exact y2 (by rw [h.eq]; rfl)]; rfl, s.b⟩
end Go.Proofs.Ytbnchbcdgffkaaa
