/- slices.Equal of shifts, of yearly ones; zone.Same. -/
import Derived.Test.YtbnchbcdgffkaaaOff
import Derived.Laws.StructEq
import Derived.Deep.RegionHeld3
import Derived.Deep.DrawnRows
namespace Go.Proofs.Ytbnchbcdgffkaaa
open Go.RowKit
set_option linter.unusedVariables false
attribute [-go_sem] run_neq_struct
theorem part_int {t : TypeId} {k : IntKind} (xs : Array Value) (i : Nat) (x : Int) (ht : Try.prog.underlying t = some (.int k)) (h : xs[i]? = some (.int .i64 x)) (W : World) : (part t xs i).run Try.prog W = .ok (.int .i64 x) W := by
  simp [part, isAgg, run_underlying ht, h]
theorem eqf_more {d : Nat} {xs ys : Array Value} {f : Field} {fs : List Field} {k : IntKind} {x y : Int} {W : World} (hn : (f.name == "_") = false) (ht : Try.prog.underlying f.type = some (.int k)) (ha : xs[f.offset]? = some (.int .i64 x)) (hb : ys[f.offset]? = some (.int .i64 y)) {r : Bool}
    (hr : (Op.eqFields (d + 1) xs ys fs).run Try.prog W = .ok r W) : (Op.eqFields (d + 1) xs ys (f :: fs)).run Try.prog W = .ok (x == y && r) W := by
  have hn' : f.name ≠ "_" := by simpa using hn
  rw [Op.eqFields]
  simp only [if_pos hn', Sem.run_bind, part_int _ _ _ ht ha, part_int _ _ _ ht hb, run_equalIn_int W d _ _ _ _ _ ht, Result.andThen_ok]
  cases x == y
  · simp
  · simpa using hr
theorem eqf_none {d : Nat} {xs ys : Array Value} {W : World} : (Op.eqFields d xs ys []).run Try.prog W = .ok true W := by simp [Op.eqFields]
theorem sh_neq (a b c d : Int) (W : World) : (binOp .neq 29 (.agg #[.int .i64 a, .int .i64 b]) (.agg #[.int .i64 c, .int .i64 d])).run Try.prog W = .ok (.bool (!(a == c && b == d))) W := by
  have hf : (Op.equalIn 10000 29 (.agg #[.int .i64 a, .int .i64 b]) (.agg #[.int .i64 c, .int .i64 d])).run Try.prog W = .ok (a == c && b == d) W := by
    have hF := Program.fieldsOf
    have e : Try.prog.fieldsOf 29 = #[{ name := "At", type := 3, offset := 0, embedded := false, tag := "", pkgPath := "", byteOffset := 0 }, { name := "Off", type := 3, offset := 1, embedded := false, tag := "", pkgPath := "", byteOffset := 8 }] := by kernel_rfl
    rw [run_equalIn_struct (P := Try.prog) W 9999 29 _ _ (by rw [e]; exact Try.underlying29) (by kernel_rfl), e]
    have := eqf_more (d := 9998) (xs := #[.int .i64 a, .int .i64 b]) (ys := #[.int .i64 c, .int .i64 d]) (f := { name := "At", type := 3, offset := 0, embedded := false, tag := "", pkgPath := "", byteOffset := 0 }) (W := W) rfl Try.underlying3 rfl rfl (eqf_more (f := { name := "Off", type := 3, offset := 1, embedded := false, tag := "", pkgPath := "", byteOffset := 8 }) rfl Try.underlying3 rfl rfl eqf_none)
    rw [Bool.and_true] at this
    exact this
  rw [run_neq_struct, hf]
  rfl
deriving instance DecidableEq for Sh
deriving instance DecidableEq for Yr
theorem yr_neq (P Q : Yr) (W : World) : (binOp .neq 50 (.agg #[.int .i64 P.m, .int .i64 P.n, .int .i64 P.w, .int .i64 P.s, .int .i64 P.o]) (.agg #[.int .i64 Q.m, .int .i64 Q.n, .int .i64 Q.w, .int .i64 Q.s, .int .i64 Q.o])).run Try.prog W = .ok (.bool (!(P.m == Q.m && (P.n == Q.n && (P.w == Q.w && (P.s == Q.s && P.o == Q.o)))))) W := by
  have hf : (Op.equalIn 10000 50 (.agg #[.int .i64 P.m, .int .i64 P.n, .int .i64 P.w, .int .i64 P.s, .int .i64 P.o]) (.agg #[.int .i64 Q.m, .int .i64 Q.n, .int .i64 Q.w, .int .i64 Q.s, .int .i64 Q.o])).run Try.prog W = .ok (P.m == Q.m && (P.n == Q.n && (P.w == Q.w && (P.s == Q.s && P.o == Q.o)))) W := by
    have e : Try.prog.fieldsOf 50 = #[{ name := "Month", type := 3, offset := 0, embedded := false, tag := "", pkgPath := "", byteOffset := 0 }, { name := "Nth", type := 3, offset := 1, embedded := false, tag := "", pkgPath := "", byteOffset := 8 }, { name := "Wday", type := 3, offset := 2, embedded := false, tag := "", pkgPath := "", byteOffset := 16 }, { name := "Sec", type := 3, offset := 3, embedded := false, tag := "", pkgPath := "", byteOffset := 24 }, { name := "Off", type := 3, offset := 4, embedded := false, tag := "", pkgPath := "", byteOffset := 32 }] := by kernel_rfl
    rw [run_equalIn_struct (P := Try.prog) W 9999 50 _ _ (by rw [e]; exact Try.underlying50) (by kernel_rfl), e]
    have := @eqf_more 9998 #[.int .i64 P.m, .int .i64 P.n, .int .i64 P.w, .int .i64 P.s, .int .i64 P.o] #[.int .i64 Q.m, .int .i64 Q.n, .int .i64 Q.w, .int .i64 Q.s, .int .i64 Q.o] { name := "Month", type := 3, offset := 0, embedded := false, tag := "", pkgPath := "", byteOffset := 0 }
    have := this (k := .i64) (x := P.m) (y := Q.m) (W := W) rfl Try.underlying3 rfl rfl (eqf_more (f := { name := "Nth", type := 3, offset := 1, embedded := false, tag := "", pkgPath := "", byteOffset := 8 }) rfl Try.underlying3 rfl rfl (eqf_more (f := { name := "Wday", type := 3, offset := 2, embedded := false, tag := "", pkgPath := "", byteOffset := 16 }) rfl Try.underlying3 rfl rfl (eqf_more (f := { name := "Sec", type := 3, offset := 3, embedded := false, tag := "", pkgPath := "", byteOffset := 24 }) rfl Try.underlying3 rfl rfl (eqf_more (f := { name := "Off", type := 3, offset := 4, embedded := false, tag := "", pkgPath := "", byteOffset := 32 }) rfl Try.underlying3 rfl rfl eqf_none))))
    rw [Bool.and_true] at this
    exact this
  rw [run_neq_struct, hf]
  rfl
set_option maxRecDepth 100000 in
set_option maxHeartbeats 4000000 in
theorem eqShifts_any (A A2 : Option Addr) (c c2 B : Nat) (L M : List Sh) (w : World) (ha : ShAt w B A L) (hb : ShAt w B A2 M) (hB : B ≤ w.heap.size) (hl : L.length ≤ maxLen) (hm : M.length ≤ maxLen) :
    Calls Try.prog 41 #[.slice A L.length c, .slice A2 M.length c2] w fun e w' => e = .returned (.bool (decide (L = M))) ∧ Below w.heap.size w w' := by
  by_cases hn : L.length = M.length
  · have hE : ∀ t : Bool, (t = true → ∀ k (h : k < L.length), L[k]? = M[k]?) → (t = false → ∃ k, ∃ h : k < L.length, L[k]? ≠ M[k]?) → decide (L = M) = t := by
      intro t h1 h2
      cases t with
      | true => exact decide_eq_true (List.ext_getElem? fun k => by
          by_cases h : k < L.length
          · exact h1 rfl k h
          · rw [List.getElem?_eq_none (by omega), List.getElem?_eq_none (by omega)])
      | false =>
        obtain ⟨k, h, hne⟩ := h2 rfl
        exact decide_eq_false fun e => hne (by subst e; rfl)
    have hE := Lib.hid hE
    have t0 : ((L.length : Int) != (M.length : Int)) = false := by simp [hn]
    replace hn := Lib.hid hn
    unfold maxLen at hl hm
    go_enter Try.func41, Try.ntmps41
    go_wp2_with fail
    go_loopw [13] (fun kv wr => ∃ j : Nat, j ≤ L.length ∧ kv = .int .i64 (j : Int) ∧ (∀ k (h : k < L.length), k < j → L[k]? = M[k]?) ∧ Below w.heap.size w wr) (fun kv _ => L.length - (intOf kv).toNat)
    case atStart => exact ⟨0, Nat.zero_le _, rfl, fun k h h2 => absurd h2 (by omega), Below.refl _ _⟩
    case round =>
      obtain ⟨j, hj, rfl, hU, b⟩ := hrel
      clear t0
      have hw := b.size
      by_cases hlt : j < L.length
      · have hlt2 : j < M.length := by have := hn.out; omega
        obtain ⟨ad, rfl, hbl, p0, p1⟩ := ha.below (b.mono hB) j hlt
        obtain ⟨ad2, rfl, hbl2, r0, r1⟩ := hb.below (b.mono hB) j hlt2
        have i0 : (0 : Int) ≤ (j : Int) := by omega
        have i1 : (j : Int) < (L.length : Int) := by omega
        have i2 : (j : Int) < (M.length : Int) := by omega
        have hnx : L[j] = M[j] → ∀ k (h : k < L.length), k < j + 1 → L[k]? = M[k]? := fun q k h h2 => by
          rcases Nat.lt_or_eq_of_le (Nat.le_of_lt_succ h2) with h3 | rfl
          · exact hU k h h3
          · rw [List.getElem?_eq_getElem hlt, List.getElem?_eq_getElem hlt2, q]
        have hno : L[j] ≠ M[j] → decide (L = M) = false := fun q => hE.out false (fun e => by cases e) fun _ => ⟨j, hlt, fun e => q (by rw [List.getElem?_eq_getElem hlt, List.getElem?_eq_getElem hlt2] at e; injection e)⟩
        obtain ⟨P, hP⟩ : ∃ P : Sh, P = L[j] := ⟨_, rfl⟩
        obtain ⟨Q, hQ⟩ : ∃ Q : Sh, Q = M[j] := ⟨_, rfl⟩
        rw [← hP] at p0 p1 hnx hno
        rw [← hQ] at r0 r1 hnx hno
        clear hP hQ
        have hq := sh_neq P.at_ P.off Q.at_ Q.off
        go_wp2_with fail
        have b := b.drew
        have p0 : wr.drew.cell? (ad.add (j * 2)) = some (.int .i64 P.at_) := p0
        have r0 : wr.drew.cell? (ad2.add (j * 2)) = some (.int .i64 Q.at_) := r0
        have p1 : wr.drew.cell? ⟨(ad.add (j * 2)).block, (ad.add (j * 2)).off + 1, none⟩ = some (.int .i64 P.off) := p1
        have r1 : wr.drew.cell? ⟨(ad2.add (j * 2)).block, (ad2.add (j * 2)).off + 1, none⟩ = some (.int .i64 Q.off) := r1
        generalize hwd : wr.drew = wd at b p0 r0 p1 r1
        by_cases q : P = Q
        · have hnx := Lib.hid (hnx q)
          clear hno
          replace hq : ∀ W, (binOp .neq 29 (.agg #[.int .i64 P.at_, .int .i64 P.off]) (.agg #[.int .i64 Q.at_, .int .i64 Q.off])).run Try.prog W = .ok (.bool false) W := fun W => by rw [hq W, q]; simp
          clear q
          refine wp_region_held_drew (S := fun w9 => w9 = wd) (by kernel_rfl) hwd (fun _ => ?_)
          refine wpAnyH_take (i := 0) (oi := { dst := some 16, op := Op.move (Operand.tmp 0), type := 22, pos := "slices.go:25", after := #[], guard := none }) (v := ?_) rfl (by kernel_rfl) (by kernel_rfl) (by kernel_rfl) (fun _ _ _ h => h) (Or.inl ⟨by rfl, ?_⟩) (by trivial) ?_
          rotate_left
          (focus (intro w hSw; subst hSw; go_simp <;> with_reducible rfl))
          try simp only [Act.put, List.setIfInBounds_toArray, List.set_cons_zero, List.set_cons_succ]
          refine wpAnyH_take (i := 1) (oi := { dst := some 17, op := Op.move (Operand.tmp 5), type := 3, pos := "slices.go:25", after := #[], guard := none }) (v := ?_) rfl (by kernel_rfl) (by kernel_rfl) (by kernel_rfl) (fun _ _ _ h => h) (Or.inl ⟨by rfl, ?_⟩) (by trivial) ?_
          rotate_left
          (focus (intro w hSw; subst hSw; go_simp <;> with_reducible rfl))
          try simp only [Act.put, List.setIfInBounds_toArray, List.set_cons_zero, List.set_cons_succ]
          refine wpAnyH_take (i := 2) (oi := { dst := some 18, op := Op.indexAddr 22 (Operand.tmp 16) (Operand.tmp 17), type := 0, pos := "slices.go:25", after := #[{ on := 0, ground := Ground.data }, { on := 1, ground := Ground.data }], guard := none }) (v := ?_) rfl (by kernel_rfl) (by kernel_rfl) (by kernel_rfl) (fun _ _ _ h => h) (Or.inl ⟨by rfl, ?_⟩) (by trivial) ?_
          rotate_left
          (focus (intro w hSw; subst hSw; go_simp <;> with_reducible rfl))
          try simp only [Act.put, List.setIfInBounds_toArray, List.set_cons_zero, List.set_cons_succ]
          refine wpAnyH_take (i := 3) (oi := { dst := some 19, op := Op.load 29 (Operand.tmp 18), type := 29, pos := "slices.go:25", after := #[{ on := 2, ground := Ground.data }], guard := none }) (v := ?_) rfl (by kernel_rfl) (by kernel_rfl) (by kernel_rfl) (fun _ _ _ h => h) (Or.inl ⟨by rfl, ?_⟩) (by trivial) ?_
          rotate_left
          (focus (intro w hSw; subst hSw; go_simp <;> with_reducible rfl))
          try simp only [Act.put, List.setIfInBounds_toArray, List.set_cons_zero, List.set_cons_succ]
          refine wpAnyH_take (i := 4) (oi := { dst := some 20, op := Op.move (Operand.tmp 1), type := 22, pos := "slices.go:25", after := #[], guard := none }) (v := ?_) rfl (by kernel_rfl) (by kernel_rfl) (by kernel_rfl) (fun _ _ _ h => h) (Or.inl ⟨by rfl, ?_⟩) (by trivial) ?_
          rotate_left
          (focus (intro w hSw; subst hSw; go_simp <;> with_reducible rfl))
          try simp only [Act.put, List.setIfInBounds_toArray, List.set_cons_zero, List.set_cons_succ]
          refine wpAnyH_take (i := 5) (oi := { dst := some 21, op := Op.move (Operand.tmp 5), type := 3, pos := "slices.go:25", after := #[], guard := none }) (v := ?_) rfl (by kernel_rfl) (by kernel_rfl) (by kernel_rfl) (fun _ _ _ h => h) (Or.inl ⟨by rfl, ?_⟩) (by trivial) ?_
          rotate_left
          (focus (intro w hSw; subst hSw; go_simp <;> with_reducible rfl))
          try simp only [Act.put, List.setIfInBounds_toArray, List.set_cons_zero, List.set_cons_succ]
          refine wpAnyH_take (i := 6) (oi := { dst := some 22, op := Op.indexAddr 22 (Operand.tmp 20) (Operand.tmp 21), type := 0, pos := "slices.go:25", after := #[{ on := 4, ground := Ground.data }, { on := 5, ground := Ground.data }], guard := none }) (v := ?_) rfl (by kernel_rfl) (by kernel_rfl) (by kernel_rfl) (fun _ _ _ h => h) (Or.inl ⟨by rfl, ?_⟩) (by trivial) ?_
          rotate_left
          (focus (intro w hSw; subst hSw; go_simp <;> with_reducible rfl))
          try simp only [Act.put, List.setIfInBounds_toArray, List.set_cons_zero, List.set_cons_succ]
          refine wpAnyH_take (i := 7) (oi := { dst := some 23, op := Op.load 29 (Operand.tmp 22), type := 29, pos := "slices.go:25", after := #[{ on := 6, ground := Ground.data }], guard := none }) (v := ?_) rfl (by kernel_rfl) (by kernel_rfl) (by kernel_rfl) (fun _ _ _ h => h) (Or.inl ⟨by rfl, ?_⟩) (by trivial) ?_
          rotate_left
          (focus (intro w hSw; subst hSw; go_simp <;> with_reducible rfl))
          try simp only [Act.put, List.setIfInBounds_toArray, List.set_cons_zero, List.set_cons_succ]
          refine wpAnyH_take (i := 8) (oi := { dst := some 24, op := Op.binOp BinOp.neq 29 (Operand.tmp 19) (Operand.tmp 23) 29, type := 4, pos := "slices.go:25", after := #[{ on := 3, ground := Ground.data }, { on := 7, ground := Ground.data }], guard := none }) (v := ?_) rfl (by kernel_rfl) (by kernel_rfl) (by kernel_rfl) (fun _ _ _ h => h) (Or.inl ⟨by rfl, ?_⟩) (by trivial) ?_
          rotate_left
          (focus (intro w hSw; subst hSw; go_simp <;> with_reducible rfl))
          try simp only [Act.put, List.setIfInBounds_toArray, List.set_cons_zero, List.set_cons_succ]
          refine wpAnyH_done (by kernel_rfl) ?_ _
          go_wp2_with fail
          go_roundw
          case rel => exact ⟨j + 1, by omega, by simp, hnx.out, b⟩
          case measure => simp [intOf]; omega
        · have hno := Lib.hid (hno q)
          clear hnx
          replace hq : ∀ W, (binOp .neq 29 (.agg #[.int .i64 P.at_, .int .i64 P.off]) (.agg #[.int .i64 Q.at_, .int .i64 Q.off])).run Try.prog W = .ok (.bool true) W := fun W => by
            rw [hq W]
            have : ((P.at_ == Q.at_) && (P.off == Q.off)) = false := by
              rw [Bool.eq_false_iff]
              intro h
              simp only [Bool.and_eq_true, beq_iff_eq] at h
              apply q
              cases P
              cases Q
              simp only at h
              simp only [Sh.mk.injEq]
              exact h
            rw [this]; rfl
          clear q
          refine wp_region_held_drew (S := fun w9 => w9 = wd) (by kernel_rfl) hwd (fun _ => ?_)
          refine wpAnyH_take (i := 0) (oi := { dst := some 16, op := Op.move (Operand.tmp 0), type := 22, pos := "slices.go:25", after := #[], guard := none }) (v := ?_) rfl (by kernel_rfl) (by kernel_rfl) (by kernel_rfl) (fun _ _ _ h => h) (Or.inl ⟨by rfl, ?_⟩) (by trivial) ?_
          rotate_left
          (focus (intro w hSw; subst hSw; go_simp <;> with_reducible rfl))
          try simp only [Act.put, List.setIfInBounds_toArray, List.set_cons_zero, List.set_cons_succ]
          refine wpAnyH_take (i := 1) (oi := { dst := some 17, op := Op.move (Operand.tmp 5), type := 3, pos := "slices.go:25", after := #[], guard := none }) (v := ?_) rfl (by kernel_rfl) (by kernel_rfl) (by kernel_rfl) (fun _ _ _ h => h) (Or.inl ⟨by rfl, ?_⟩) (by trivial) ?_
          rotate_left
          (focus (intro w hSw; subst hSw; go_simp <;> with_reducible rfl))
          try simp only [Act.put, List.setIfInBounds_toArray, List.set_cons_zero, List.set_cons_succ]
          refine wpAnyH_take (i := 2) (oi := { dst := some 18, op := Op.indexAddr 22 (Operand.tmp 16) (Operand.tmp 17), type := 0, pos := "slices.go:25", after := #[{ on := 0, ground := Ground.data }, { on := 1, ground := Ground.data }], guard := none }) (v := ?_) rfl (by kernel_rfl) (by kernel_rfl) (by kernel_rfl) (fun _ _ _ h => h) (Or.inl ⟨by rfl, ?_⟩) (by trivial) ?_
          rotate_left
          (focus (intro w hSw; subst hSw; go_simp <;> with_reducible rfl))
          try simp only [Act.put, List.setIfInBounds_toArray, List.set_cons_zero, List.set_cons_succ]
          refine wpAnyH_take (i := 3) (oi := { dst := some 19, op := Op.load 29 (Operand.tmp 18), type := 29, pos := "slices.go:25", after := #[{ on := 2, ground := Ground.data }], guard := none }) (v := ?_) rfl (by kernel_rfl) (by kernel_rfl) (by kernel_rfl) (fun _ _ _ h => h) (Or.inl ⟨by rfl, ?_⟩) (by trivial) ?_
          rotate_left
          (focus (intro w hSw; subst hSw; go_simp <;> with_reducible rfl))
          try simp only [Act.put, List.setIfInBounds_toArray, List.set_cons_zero, List.set_cons_succ]
          refine wpAnyH_take (i := 4) (oi := { dst := some 20, op := Op.move (Operand.tmp 1), type := 22, pos := "slices.go:25", after := #[], guard := none }) (v := ?_) rfl (by kernel_rfl) (by kernel_rfl) (by kernel_rfl) (fun _ _ _ h => h) (Or.inl ⟨by rfl, ?_⟩) (by trivial) ?_
          rotate_left
          (focus (intro w hSw; subst hSw; go_simp <;> with_reducible rfl))
          try simp only [Act.put, List.setIfInBounds_toArray, List.set_cons_zero, List.set_cons_succ]
          refine wpAnyH_take (i := 5) (oi := { dst := some 21, op := Op.move (Operand.tmp 5), type := 3, pos := "slices.go:25", after := #[], guard := none }) (v := ?_) rfl (by kernel_rfl) (by kernel_rfl) (by kernel_rfl) (fun _ _ _ h => h) (Or.inl ⟨by rfl, ?_⟩) (by trivial) ?_
          rotate_left
          (focus (intro w hSw; subst hSw; go_simp <;> with_reducible rfl))
          try simp only [Act.put, List.setIfInBounds_toArray, List.set_cons_zero, List.set_cons_succ]
          refine wpAnyH_take (i := 6) (oi := { dst := some 22, op := Op.indexAddr 22 (Operand.tmp 20) (Operand.tmp 21), type := 0, pos := "slices.go:25", after := #[{ on := 4, ground := Ground.data }, { on := 5, ground := Ground.data }], guard := none }) (v := ?_) rfl (by kernel_rfl) (by kernel_rfl) (by kernel_rfl) (fun _ _ _ h => h) (Or.inl ⟨by rfl, ?_⟩) (by trivial) ?_
          rotate_left
          (focus (intro w hSw; subst hSw; go_simp <;> with_reducible rfl))
          try simp only [Act.put, List.setIfInBounds_toArray, List.set_cons_zero, List.set_cons_succ]
          refine wpAnyH_take (i := 7) (oi := { dst := some 23, op := Op.load 29 (Operand.tmp 22), type := 29, pos := "slices.go:25", after := #[{ on := 6, ground := Ground.data }], guard := none }) (v := ?_) rfl (by kernel_rfl) (by kernel_rfl) (by kernel_rfl) (fun _ _ _ h => h) (Or.inl ⟨by rfl, ?_⟩) (by trivial) ?_
          rotate_left
          (focus (intro w hSw; subst hSw; go_simp <;> with_reducible rfl))
          try simp only [Act.put, List.setIfInBounds_toArray, List.set_cons_zero, List.set_cons_succ]
          refine wpAnyH_take (i := 8) (oi := { dst := some 24, op := Op.binOp BinOp.neq 29 (Operand.tmp 19) (Operand.tmp 23) 29, type := 4, pos := "slices.go:25", after := #[{ on := 3, ground := Ground.data }, { on := 7, ground := Ground.data }], guard := none }) (v := ?_) rfl (by kernel_rfl) (by kernel_rfl) (by kernel_rfl) (fun _ _ _ h => h) (Or.inl ⟨by rfl, ?_⟩) (by trivial) ?_
          rotate_left
          (focus (intro w hSw; subst hSw; go_simp <;> with_reducible rfl))
          try simp only [Act.put, List.setIfInBounds_toArray, List.set_cons_zero, List.set_cons_succ]
          refine wpAnyH_done (by kernel_rfl) ?_ _
          go_wp2_with fail
          go_ret
          exact ⟨by rw [hno.out]; rfl, by first | exact b | (rw [hwd]; exact b)⟩
      · obtain rfl : j = L.length := by omega
        have he := Lib.hid (hE.out true (fun _ k h => hU k h h) (fun e => by cases e))
        go_wp2_with fail
        go_ret
        exact ⟨by rw [he.out]; rfl, b⟩
  · have t0 : ((L.length : Int) != (M.length : Int)) = true := by rw [bne_iff_ne]; omega
    rw [decide_eq_false (fun e : L = M => hn (by rw [e]))]
    clear hn
    go_enter Try.func41, Try.ntmps41
    go_wp2_with fail
    go_ret
    exact ⟨rfl, Below.refl _ _⟩
set_option maxRecDepth 100000 in
set_option maxHeartbeats 4000000 in
theorem eqYears_any (A A2 : Option Addr) (c c2 B : Nat) (L M : List Yr) (w : World) (ha : YrAt w B A L) (hb : YrAt w B A2 M) (hB : B ≤ w.heap.size) (hl : L.length ≤ maxLen) (hm : M.length ≤ maxLen) :
    Calls Try.prog 42 #[.slice A L.length c, .slice A2 M.length c2] w fun e w' => e = .returned (.bool (decide (L = M))) ∧ Below w.heap.size w w' := by
  by_cases hn : L.length = M.length
  · have hE : ∀ t : Bool, (t = true → ∀ k (h : k < L.length), L[k]? = M[k]?) → (t = false → ∃ k, ∃ h : k < L.length, L[k]? ≠ M[k]?) → decide (L = M) = t := by
      intro t h1 h2
      cases t with
      | true => exact decide_eq_true (List.ext_getElem? fun k => by
          by_cases h : k < L.length
          · exact h1 rfl k h
          · rw [List.getElem?_eq_none (by omega), List.getElem?_eq_none (by omega)])
      | false =>
        obtain ⟨k, h, hne⟩ := h2 rfl
        exact decide_eq_false fun e => hne (by subst e; rfl)
    have hE := Lib.hid hE
    have t0 : ((L.length : Int) != (M.length : Int)) = false := by simp [hn]
    replace hn := Lib.hid hn
    unfold maxLen at hl hm
    go_enter Try.func42, Try.ntmps42
    go_wp2_with fail
    go_loopw [13] (fun kv wr => ∃ j : Nat, j ≤ L.length ∧ kv = .int .i64 (j : Int) ∧ (∀ k (h : k < L.length), k < j → L[k]? = M[k]?) ∧ Below w.heap.size w wr) (fun kv _ => L.length - (intOf kv).toNat)
    case atStart => exact ⟨0, Nat.zero_le _, rfl, fun k h h2 => absurd h2 (by omega), Below.refl _ _⟩
    case round =>
      obtain ⟨j, hj, rfl, hU, b⟩ := hrel
      clear t0
      have hw := b.size
      by_cases hlt : j < L.length
      · have hlt2 : j < M.length := by have := hn.out; omega
        obtain ⟨ad, rfl, hbl, p0, p1, p2, p3, p4⟩ := ha.below (b.mono hB) j hlt
        obtain ⟨ad2, rfl, hbl2, r0, r1, r2, r3, r4⟩ := hb.below (b.mono hB) j hlt2
        have i0 : (0 : Int) ≤ (j : Int) := by omega
        have i1 : (j : Int) < (L.length : Int) := by omega
        have i2 : (j : Int) < (M.length : Int) := by omega
        have hnx : L[j] = M[j] → ∀ k (h : k < L.length), k < j + 1 → L[k]? = M[k]? := fun q k h h2 => by
          rcases Nat.lt_or_eq_of_le (Nat.le_of_lt_succ h2) with h3 | rfl
          · exact hU k h h3
          · rw [List.getElem?_eq_getElem hlt, List.getElem?_eq_getElem hlt2, q]
        have hno : L[j] ≠ M[j] → decide (L = M) = false := fun q => hE.out false (fun e => by cases e) fun _ => ⟨j, hlt, fun e => q (by rw [List.getElem?_eq_getElem hlt, List.getElem?_eq_getElem hlt2] at e; injection e)⟩
        obtain ⟨P, hP⟩ : ∃ P : Yr, P = L[j] := ⟨_, rfl⟩
        obtain ⟨Q, hQ⟩ : ∃ Q : Yr, Q = M[j] := ⟨_, rfl⟩
        rw [← hP] at p0 p1 p2 p3 p4 hnx hno
        rw [← hQ] at r0 r1 r2 r3 r4 hnx hno
        clear hP hQ
        have hq := yr_neq P Q
        go_wp2_with fail
        have b := b.drew
        have p0 : wr.drew.cell? (ad.add (j * 5)) = some (.int .i64 P.m) := p0
        have r0 : wr.drew.cell? (ad2.add (j * 5)) = some (.int .i64 Q.m) := r0
        have p1 : wr.drew.cell? ⟨(ad.add (j * 5)).block, (ad.add (j * 5)).off + 1, none⟩ = some (.int .i64 P.n) := p1
        have r1 : wr.drew.cell? ⟨(ad2.add (j * 5)).block, (ad2.add (j * 5)).off + 1, none⟩ = some (.int .i64 Q.n) := r1
        have p2 : wr.drew.cell? ⟨(ad.add (j * 5)).block, (ad.add (j * 5)).off + 2, none⟩ = some (.int .i64 P.w) := p2
        have r2 : wr.drew.cell? ⟨(ad2.add (j * 5)).block, (ad2.add (j * 5)).off + 2, none⟩ = some (.int .i64 Q.w) := r2
        have p3 : wr.drew.cell? ⟨(ad.add (j * 5)).block, (ad.add (j * 5)).off + 3, none⟩ = some (.int .i64 P.s) := p3
        have r3 : wr.drew.cell? ⟨(ad2.add (j * 5)).block, (ad2.add (j * 5)).off + 3, none⟩ = some (.int .i64 Q.s) := r3
        have p4 : wr.drew.cell? ⟨(ad.add (j * 5)).block, (ad.add (j * 5)).off + 4, none⟩ = some (.int .i64 P.o) := p4
        have r4 : wr.drew.cell? ⟨(ad2.add (j * 5)).block, (ad2.add (j * 5)).off + 4, none⟩ = some (.int .i64 Q.o) := r4
        generalize hwd : wr.drew = wd at b p0 r0 p1 r1 p2 r2 p3 r3 p4 r4
        by_cases q : P = Q
        · have hnx := Lib.hid (hnx q)
          clear hno
          replace hq : ∀ W, (binOp .neq 50 (.agg #[.int .i64 P.m, .int .i64 P.n, .int .i64 P.w, .int .i64 P.s, .int .i64 P.o]) (.agg #[.int .i64 Q.m, .int .i64 Q.n, .int .i64 Q.w, .int .i64 Q.s, .int .i64 Q.o])).run Try.prog W = .ok (.bool false) W := fun W => by rw [hq W, q]; simp
          clear q
          refine wp_region_held_drew (S := fun w9 => w9 = wd) (by kernel_rfl) hwd (fun _ => ?_)
          refine wpAnyH_take (i := 0) (oi := { dst := some 16, op := Op.move (Operand.tmp 0), type := 23, pos := "slices.go:25", after := #[], guard := none }) (v := ?_) rfl (by kernel_rfl) (by kernel_rfl) (by kernel_rfl) (fun _ _ _ h => h) (Or.inl ⟨by rfl, ?_⟩) (by trivial) ?_
          rotate_left
          (focus (intro w hSw; subst hSw; go_simp <;> with_reducible rfl))
          try simp only [Act.put, List.setIfInBounds_toArray, List.set_cons_zero, List.set_cons_succ]
          refine wpAnyH_take (i := 1) (oi := { dst := some 17, op := Op.move (Operand.tmp 5), type := 3, pos := "slices.go:25", after := #[], guard := none }) (v := ?_) rfl (by kernel_rfl) (by kernel_rfl) (by kernel_rfl) (fun _ _ _ h => h) (Or.inl ⟨by rfl, ?_⟩) (by trivial) ?_
          rotate_left
          (focus (intro w hSw; subst hSw; go_simp <;> with_reducible rfl))
          try simp only [Act.put, List.setIfInBounds_toArray, List.set_cons_zero, List.set_cons_succ]
          refine wpAnyH_take (i := 2) (oi := { dst := some 18, op := Op.indexAddr 23 (Operand.tmp 16) (Operand.tmp 17), type := 0, pos := "slices.go:25", after := #[{ on := 0, ground := Ground.data }, { on := 1, ground := Ground.data }], guard := none }) (v := ?_) rfl (by kernel_rfl) (by kernel_rfl) (by kernel_rfl) (fun _ _ _ h => h) (Or.inl ⟨by rfl, ?_⟩) (by trivial) ?_
          rotate_left
          (focus (intro w hSw; subst hSw; go_simp <;> with_reducible rfl))
          try simp only [Act.put, List.setIfInBounds_toArray, List.set_cons_zero, List.set_cons_succ]
          refine wpAnyH_take (i := 3) (oi := { dst := some 19, op := Op.load 50 (Operand.tmp 18), type := 50, pos := "slices.go:25", after := #[{ on := 2, ground := Ground.data }], guard := none }) (v := ?_) rfl (by kernel_rfl) (by kernel_rfl) (by kernel_rfl) (fun _ _ _ h => h) (Or.inl ⟨by rfl, ?_⟩) (by trivial) ?_
          rotate_left
          (focus (intro w hSw; subst hSw; go_simp <;> with_reducible rfl))
          try simp only [Act.put, List.setIfInBounds_toArray, List.set_cons_zero, List.set_cons_succ]
          refine wpAnyH_take (i := 4) (oi := { dst := some 20, op := Op.move (Operand.tmp 1), type := 23, pos := "slices.go:25", after := #[], guard := none }) (v := ?_) rfl (by kernel_rfl) (by kernel_rfl) (by kernel_rfl) (fun _ _ _ h => h) (Or.inl ⟨by rfl, ?_⟩) (by trivial) ?_
          rotate_left
          (focus (intro w hSw; subst hSw; go_simp <;> with_reducible rfl))
          try simp only [Act.put, List.setIfInBounds_toArray, List.set_cons_zero, List.set_cons_succ]
          refine wpAnyH_take (i := 5) (oi := { dst := some 21, op := Op.move (Operand.tmp 5), type := 3, pos := "slices.go:25", after := #[], guard := none }) (v := ?_) rfl (by kernel_rfl) (by kernel_rfl) (by kernel_rfl) (fun _ _ _ h => h) (Or.inl ⟨by rfl, ?_⟩) (by trivial) ?_
          rotate_left
          (focus (intro w hSw; subst hSw; go_simp <;> with_reducible rfl))
          try simp only [Act.put, List.setIfInBounds_toArray, List.set_cons_zero, List.set_cons_succ]
          refine wpAnyH_take (i := 6) (oi := { dst := some 22, op := Op.indexAddr 23 (Operand.tmp 20) (Operand.tmp 21), type := 0, pos := "slices.go:25", after := #[{ on := 4, ground := Ground.data }, { on := 5, ground := Ground.data }], guard := none }) (v := ?_) rfl (by kernel_rfl) (by kernel_rfl) (by kernel_rfl) (fun _ _ _ h => h) (Or.inl ⟨by rfl, ?_⟩) (by trivial) ?_
          rotate_left
          (focus (intro w hSw; subst hSw; go_simp <;> with_reducible rfl))
          try simp only [Act.put, List.setIfInBounds_toArray, List.set_cons_zero, List.set_cons_succ]
          refine wpAnyH_take (i := 7) (oi := { dst := some 23, op := Op.load 50 (Operand.tmp 22), type := 50, pos := "slices.go:25", after := #[{ on := 6, ground := Ground.data }], guard := none }) (v := ?_) rfl (by kernel_rfl) (by kernel_rfl) (by kernel_rfl) (fun _ _ _ h => h) (Or.inl ⟨by rfl, ?_⟩) (by trivial) ?_
          rotate_left
          (focus (intro w hSw; subst hSw; go_simp <;> with_reducible rfl))
          try simp only [Act.put, List.setIfInBounds_toArray, List.set_cons_zero, List.set_cons_succ]
          refine wpAnyH_take (i := 8) (oi := { dst := some 24, op := Op.binOp BinOp.neq 50 (Operand.tmp 19) (Operand.tmp 23) 50, type := 4, pos := "slices.go:25", after := #[{ on := 3, ground := Ground.data }, { on := 7, ground := Ground.data }], guard := none }) (v := ?_) rfl (by kernel_rfl) (by kernel_rfl) (by kernel_rfl) (fun _ _ _ h => h) (Or.inl ⟨by rfl, ?_⟩) (by trivial) ?_
          rotate_left
          (focus (intro w hSw; subst hSw; go_simp <;> with_reducible rfl))
          try simp only [Act.put, List.setIfInBounds_toArray, List.set_cons_zero, List.set_cons_succ]
          refine wpAnyH_done (by kernel_rfl) ?_ _
          go_wp2_with fail
          go_roundw
          case rel => exact ⟨j + 1, by omega, by simp, hnx.out, b⟩
          case measure => simp [intOf]; omega
        · have hno := Lib.hid (hno q)
          clear hnx
          replace hq : ∀ W, (binOp .neq 50 (.agg #[.int .i64 P.m, .int .i64 P.n, .int .i64 P.w, .int .i64 P.s, .int .i64 P.o]) (.agg #[.int .i64 Q.m, .int .i64 Q.n, .int .i64 Q.w, .int .i64 Q.s, .int .i64 Q.o])).run Try.prog W = .ok (.bool true) W := fun W => by
            rw [hq W]
            have : ((P.m == Q.m) && ((P.n == Q.n) && ((P.w == Q.w) && ((P.s == Q.s) && (P.o == Q.o))))) = false := by
              rw [Bool.eq_false_iff]
              intro h
              simp only [Bool.and_eq_true, beq_iff_eq] at h
              apply q
              cases P
              cases Q
              simp only at h
              simp only [Yr.mk.injEq]
              exact h
            rw [this]; rfl
          clear q
          refine wp_region_held_drew (S := fun w9 => w9 = wd) (by kernel_rfl) hwd (fun _ => ?_)
          refine wpAnyH_take (i := 0) (oi := { dst := some 16, op := Op.move (Operand.tmp 0), type := 23, pos := "slices.go:25", after := #[], guard := none }) (v := ?_) rfl (by kernel_rfl) (by kernel_rfl) (by kernel_rfl) (fun _ _ _ h => h) (Or.inl ⟨by rfl, ?_⟩) (by trivial) ?_
          rotate_left
          (focus (intro w hSw; subst hSw; go_simp <;> with_reducible rfl))
          try simp only [Act.put, List.setIfInBounds_toArray, List.set_cons_zero, List.set_cons_succ]
          refine wpAnyH_take (i := 1) (oi := { dst := some 17, op := Op.move (Operand.tmp 5), type := 3, pos := "slices.go:25", after := #[], guard := none }) (v := ?_) rfl (by kernel_rfl) (by kernel_rfl) (by kernel_rfl) (fun _ _ _ h => h) (Or.inl ⟨by rfl, ?_⟩) (by trivial) ?_
          rotate_left
          (focus (intro w hSw; subst hSw; go_simp <;> with_reducible rfl))
          try simp only [Act.put, List.setIfInBounds_toArray, List.set_cons_zero, List.set_cons_succ]
          refine wpAnyH_take (i := 2) (oi := { dst := some 18, op := Op.indexAddr 23 (Operand.tmp 16) (Operand.tmp 17), type := 0, pos := "slices.go:25", after := #[{ on := 0, ground := Ground.data }, { on := 1, ground := Ground.data }], guard := none }) (v := ?_) rfl (by kernel_rfl) (by kernel_rfl) (by kernel_rfl) (fun _ _ _ h => h) (Or.inl ⟨by rfl, ?_⟩) (by trivial) ?_
          rotate_left
          (focus (intro w hSw; subst hSw; go_simp <;> with_reducible rfl))
          try simp only [Act.put, List.setIfInBounds_toArray, List.set_cons_zero, List.set_cons_succ]
          refine wpAnyH_take (i := 3) (oi := { dst := some 19, op := Op.load 50 (Operand.tmp 18), type := 50, pos := "slices.go:25", after := #[{ on := 2, ground := Ground.data }], guard := none }) (v := ?_) rfl (by kernel_rfl) (by kernel_rfl) (by kernel_rfl) (fun _ _ _ h => h) (Or.inl ⟨by rfl, ?_⟩) (by trivial) ?_
          rotate_left
          (focus (intro w hSw; subst hSw; go_simp <;> with_reducible rfl))
          try simp only [Act.put, List.setIfInBounds_toArray, List.set_cons_zero, List.set_cons_succ]
          refine wpAnyH_take (i := 4) (oi := { dst := some 20, op := Op.move (Operand.tmp 1), type := 23, pos := "slices.go:25", after := #[], guard := none }) (v := ?_) rfl (by kernel_rfl) (by kernel_rfl) (by kernel_rfl) (fun _ _ _ h => h) (Or.inl ⟨by rfl, ?_⟩) (by trivial) ?_
          rotate_left
          (focus (intro w hSw; subst hSw; go_simp <;> with_reducible rfl))
          try simp only [Act.put, List.setIfInBounds_toArray, List.set_cons_zero, List.set_cons_succ]
          refine wpAnyH_take (i := 5) (oi := { dst := some 21, op := Op.move (Operand.tmp 5), type := 3, pos := "slices.go:25", after := #[], guard := none }) (v := ?_) rfl (by kernel_rfl) (by kernel_rfl) (by kernel_rfl) (fun _ _ _ h => h) (Or.inl ⟨by rfl, ?_⟩) (by trivial) ?_
          rotate_left
          (focus (intro w hSw; subst hSw; go_simp <;> with_reducible rfl))
          try simp only [Act.put, List.setIfInBounds_toArray, List.set_cons_zero, List.set_cons_succ]
          refine wpAnyH_take (i := 6) (oi := { dst := some 22, op := Op.indexAddr 23 (Operand.tmp 20) (Operand.tmp 21), type := 0, pos := "slices.go:25", after := #[{ on := 4, ground := Ground.data }, { on := 5, ground := Ground.data }], guard := none }) (v := ?_) rfl (by kernel_rfl) (by kernel_rfl) (by kernel_rfl) (fun _ _ _ h => h) (Or.inl ⟨by rfl, ?_⟩) (by trivial) ?_
          rotate_left
          (focus (intro w hSw; subst hSw; go_simp <;> with_reducible rfl))
          try simp only [Act.put, List.setIfInBounds_toArray, List.set_cons_zero, List.set_cons_succ]
          refine wpAnyH_take (i := 7) (oi := { dst := some 23, op := Op.load 50 (Operand.tmp 22), type := 50, pos := "slices.go:25", after := #[{ on := 6, ground := Ground.data }], guard := none }) (v := ?_) rfl (by kernel_rfl) (by kernel_rfl) (by kernel_rfl) (fun _ _ _ h => h) (Or.inl ⟨by rfl, ?_⟩) (by trivial) ?_
          rotate_left
          (focus (intro w hSw; subst hSw; go_simp <;> with_reducible rfl))
          try simp only [Act.put, List.setIfInBounds_toArray, List.set_cons_zero, List.set_cons_succ]
          refine wpAnyH_take (i := 8) (oi := { dst := some 24, op := Op.binOp BinOp.neq 50 (Operand.tmp 19) (Operand.tmp 23) 50, type := 4, pos := "slices.go:25", after := #[{ on := 3, ground := Ground.data }, { on := 7, ground := Ground.data }], guard := none }) (v := ?_) rfl (by kernel_rfl) (by kernel_rfl) (by kernel_rfl) (fun _ _ _ h => h) (Or.inl ⟨by rfl, ?_⟩) (by trivial) ?_
          rotate_left
          (focus (intro w hSw; subst hSw; go_simp <;> with_reducible rfl))
          try simp only [Act.put, List.setIfInBounds_toArray, List.set_cons_zero, List.set_cons_succ]
          refine wpAnyH_done (by kernel_rfl) ?_ _
          go_wp2_with fail
          go_ret
          exact ⟨by rw [hno.out]; rfl, by first | exact b | (rw [hwd]; exact b)⟩
      · obtain rfl : j = L.length := by omega
        have he := Lib.hid (hE.out true (fun _ k h => hU k h h) (fun e => by cases e))
        go_wp2_with fail
        go_ret
        exact ⟨by rw [he.out]; rfl, b⟩
  · have t0 : ((L.length : Int) != (M.length : Int)) = true := by rw [bne_iff_ne]; omega
    rw [decide_eq_false (fun e : L = M => hn (by rw [e]))]
    clear hn
    go_enter Try.func42, Try.ntmps42
    go_wp2_with fail
    go_ret
    exact ⟨rfl, Below.refl _ _⟩
def sameB (bs : Int) (L : List Sh) (Y : List Yr) (fr : Int) (bs2 : Int) (L2 : List Sh) (Y2 : List Yr) (fr2 : Int) : Bool := decide (bs = bs2 ∧ fr = fr2 ∧ L = L2 ∧ Y = Y2)
set_option maxHeartbeats 4000000 in
theorem same_any {bs : Int} {A A' : Option Addr} {c c' : Nat} {fr : Int} {L : List Sh} {Y : List Yr} {bs2 : Int} {A2 A2' : Option Addr} {k k' : Nat} {fr2 : Int} {L2 : List Sh} {Y2 : List Yr} {B : Nat} {w : World} (hz : ZAt w B A A' L Y) (hz2 : ZAt w B A2 A2' L2 Y2) (hB : B ≤ w.heap.size) :
    Calls Try.prog 24 #[zv bs A L.length c A' Y.length c' fr, zv bs2 A2 L2.length k A2' Y2.length k' fr2] w fun e w' => e = .returned (.bool (sameB bs L Y fr bs2 L2 Y2 fr2)) ∧ Below w.heap.size w w' := by
  go_enter Try.func24, Try.ntmps24
  have bx0 := (Below.refl w.heap.size w).alloc (Nat.le_refl _) (zo bs A L.length c A' Y.length c' fr)
  have HB1 := Boxed.new_ (bs := bs) (A := A) (n := L.length) (c := c) (A' := A') (n' := Y.length) (c' := c') (fr := fr) w
  have bx := bx0.alloc (by simp) (zo bs2 A2 L2.length k A2' Y2.length k' fr2)
  have HB1 := HB1.below ((Below.refl (w.heap.size + 1) _).alloc (by simp) (zo bs2 A2 L2.length k A2' Y2.length k' fr2)) (by omega)
  have HB2 := Boxed.new_ (bs := bs2) (A := A2) (n := L2.length) (c := k) (A' := A2') (n' := Y2.length) (c' := k') (fr := fr2) (w.alloc (zo bs A L.length c A' Y.length c' fr))
  rw [show (w.alloc (zo bs A L.length c A' Y.length c' fr)).heap.size = w.heap.size + 1 by simp] at HB2
  by_cases q1 : bs = bs2
  · subst q1
    by_cases q2 : fr = fr2
    · subst q2
      go_wp2_with fail
      generalize (w.alloc (zo bs A L.length c A' Y.length c' fr)).alloc (zo bs A2 L2.length k A2' Y2.length k' fr) = w1 at bx HB1 HB2 ⊢
      have hw := bx.size
      have y1 := hz.below (bx.mono hB)
      have y2 := hz2.below (bx.mono hB)
      refine (eqShifts_any A A2 c k B L L2 w1 y1.s y2.s (Nat.le_trans hB hw) y1.l y2.l).mono ?_
      rintro e w2 ⟨rfl, b2⟩
      have b2a := bx.trans (b2.mono hw)
      have HB1 := HB1.below b2 HB1.lt
      have HB2 := HB2.below b2 HB2.lt
      have y1 := hz.below (b2a.mono hB)
      have y2 := hz2.below (b2a.mono hB)
      obtain ⟨-, c0, c1, c2, c3⟩ := HB1
      obtain ⟨-, d0, d1, d2, d3⟩ := HB2
      by_cases q3 : L = L2
      · have q3t := decide_eq_true q3
        rw [q3t]
        have e1 := Lib.hid (show sameB bs L Y fr bs L2 Y2 fr = decide (Y = Y2) by unfold sameB; simp [q3])
        clear q3t q3
        go_wp2_with fail
        refine (eqYears_any A' A2' c' k' B Y Y2 w2 y1.y y2.y (Nat.le_trans hB b2a.size) y1.l' y2.l').mono ?_
        rintro e w3 ⟨rfl, b3⟩
        generalize hT : decide (Y = Y2) = t at e1 ⊢
        clear hT
        go_wp2_with fail
        go_ret
        exact ⟨by rw [e1.out]; rfl, b2a.trans (b3.mono b2a.size)⟩
      · have q3t := decide_eq_false q3
        rw [q3t]
        have e1 := Lib.hid (show sameB bs L Y fr bs L2 Y2 fr = false by unfold sameB; simp [q3])
        clear q3t q3
        go_wp2_with fail
        go_ret
        exact ⟨by rw [e1.out]; rfl, b2a⟩
    · have e1 := Lib.hid (show sameB bs L Y fr bs L2 Y2 fr2 = false by unfold sameB; simp [q2])
      have q2t : (fr == fr2) = false := by simpa using q2
      clear q2
      go_wp2_with fail
      go_ret
      exact ⟨by rw [e1.out]; rfl, bx⟩
  · have e1 := Lib.hid (show sameB bs L Y fr bs2 L2 Y2 fr2 = false by unfold sameB; simp [q1])
    have q1t : (bs == bs2) = false := by simpa using q1
    clear q1
    go_wp2_with fail
    go_ret
    exact ⟨by rw [e1.out]; rfl, bx⟩
end Go.Proofs.Ytbnchbcdgffkaaa
