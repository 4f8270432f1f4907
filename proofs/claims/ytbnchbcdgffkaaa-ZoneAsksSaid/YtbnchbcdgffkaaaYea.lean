/- Yearly shifts on memory; zone.mayYears. -/
import Derived.Test.YtbnchbcdgffkaaaShi
namespace Go.Proofs.Ytbnchbcdgffkaaa
open Go.RowKit
set_option linter.unusedVariables false
/-- A yearly shift. -/
structure Yr where
  m : Int
  n : Int
  w : Int
  s : Int
  o : Int
/-- A slice of yearly shifts that reads as L. -/
def YrAt (w : World) (B : Nat) (A : Option Addr) (L : List Yr) : Prop := ∀ k (h : k < L.length), ∃ ad, A = some ad ∧ (ad.add (k * 5)).block < B ∧ w.cell? (ad.add (k * 5)) = some (.int .i64 L[k].m) ∧ w.cell? ⟨(ad.add (k * 5)).block, (ad.add (k * 5)).off + 1, none⟩ = some (.int .i64 L[k].n) ∧ w.cell? ⟨(ad.add (k * 5)).block, (ad.add (k * 5)).off + 2, none⟩ = some (.int .i64 L[k].w) ∧ w.cell? ⟨(ad.add (k * 5)).block, (ad.add (k * 5)).off + 3, none⟩ = some (.int .i64 L[k].s) ∧ w.cell? ⟨(ad.add (k * 5)).block, (ad.add (k * 5)).off + 4, none⟩ = some (.int .i64 L[k].o)
theorem YrAt.below {w w' : World} {B : Nat} {A : Option Addr} {L : List Yr} (h : YrAt w B A L) (hb : Below B w w') : YrAt w' B A L := fun k hk => by
  obtain ⟨ad, e, hB, h1, h2, h3, h4, h5⟩ := h k hk
  exact ⟨ad, e, hB, (hb.cell hB).trans h1, (hb.cell (by exact hB)).trans h2, (hb.cell (by exact hB)).trans h3, (hb.cell (by exact hB)).trans h4, (hb.cell (by exact hB)).trans h5⟩
structure YrOk (y : Yr) : Prop where
  m1 : 1 ≤ y.m
  m2 : y.m ≤ 12
  n1 : 1 ≤ y.n
  n2 : y.n ≤ 5
  w1 : 0 ≤ y.w
  w2 : y.w ≤ 6
  s1 : 0 ≤ y.s
  s2 : y.s < 86400
  o : OffOk y.o
/-- May two be the yearly ones? -/
structure MayY (a b : Yr) : Prop where
  fa : YrOk a
  fb : YrOk b
  lo : 2 ≤ b.m - a.m
  hi : b.m - a.m ≤ 10
noncomputable def mayYB (a b : Yr) : Bool := @decide (MayY a b) (Classical.propDecidable _)
theorem mayYB_yes {a b : Yr} (h : MayY a b) : mayYB a b = true := @decide_eq_true _ (Classical.propDecidable _) h
theorem mayYB_no {a b : Yr} (h : ¬ MayY a b) : mayYB a b = false := @decide_eq_false _ (Classical.propDecidable _) h
theorem mayYB_iff {a b : Yr} : mayYB a b = true ↔ MayY a b := @decide_eq_true_iff _ (Classical.propDecidable _)
theorem mayY_at {a b : Yr} (h : MayY a b) (j : Nat) (hj : j < [a, b].length) : YrOk [a, b][j] := by
  match j, hj with
  | 0, _ => exact h.fa
  | 1, _ => exact h.fb
set_option maxRecDepth 100000 in
set_option maxHeartbeats 4000000 in
theorem mayYears_any (A : Option Addr) (c B : Nat) (x z : Yr) (w : World) (ha : YrAt w B A [x, z]) (hB : B ≤ w.heap.size) :
    Calls Try.prog 38 #[.slice A 2 c] w fun e w' => e = .returned (.bool (mayYB x z)) ∧ Below w.heap.size w w' := by
  obtain ⟨L, hL⟩ : ∃ L, L = [x, z] := ⟨_, rfl⟩
  have h2 : L.length = 2 := by rw [hL]; rfl
  have hM : MayY x z → ∀ j (h : j < L.length), YrOk L[j] := by subst hL; exact mayY_at
  have hZ : YrAt w B A [x, z] := ha
  rw [← hL] at ha
  have hL := Lib.hid hL
  have hZ := Lib.hid hZ
  go_enter Try.func38, Try.ntmps38
  go_wp2_with fail
  go_loopw [8] (fun kv wr => ∃ j : Nat, j ≤ 2 ∧ kv = .int .i64 (j : Int) ∧ (∀ k (h : k < L.length), k < j → YrOk L[k]) ∧ Below w.heap.size w wr) (fun kv _ => 2 - (intOf kv).toNat)
  case atStart => exact ⟨0, Nat.zero_le _, rfl, fun k h h2 => absurd h2 (by omega), Below.refl _ _⟩
  case round =>
    obtain ⟨j, hj, rfl, hU, b⟩ := hrel
    have hw := b.size
    by_cases hlt : j < 2
    · have hk : j < L.length := by omega
      obtain ⟨ad, rfl, hbl, p0, p1, p2, p3, p4⟩ := ha.below (b.mono hB) j hk
      have i0 : (0 : Int) ≤ (j : Int) := by omega
      have i1 : (j : Int) < 2 := by omega
      have hq := fun h => hM h j hk
      obtain ⟨y, hy⟩ : ∃ y, y = L[j] := ⟨_, rfl⟩
      rw [← hy] at p0 p1 p2 p3 p4 hq
      have hN : YrOk y → ∀ k (h : k < L.length), k < j + 1 → YrOk L[k] := fun o k h h2 => by
        rcases Nat.lt_or_eq_of_le (Nat.le_of_lt_succ h2) with h3 | rfl
        · exact hU k h h3
        · rw [← hy]; exact o
      clear hy
      obtain ⟨m, n, wd, s, o⟩ := y
      simp only at p0 p1 p2 p3 p4 hq hN
      have bx := b.alloc hw (.cells #[.int .i64 m, .int .i64 n, .int .i64 wd, .int .i64 s, .int .i64 o] 50)
      by_cases qm1 : m < 1
      · go_wp2_with fail
        go_ret
        exact ⟨by rw [mayYB_no fun h => absurd (hq h).m1 (by simp only; omega)]; rfl, bx⟩
      by_cases qm2 : 12 < m
      · go_wp2_with fail
        go_ret
        exact ⟨by rw [mayYB_no fun h => absurd (hq h).m2 (by simp only; omega)]; rfl, bx⟩
      by_cases qn1 : n < 1
      · go_wp2_with fail
        go_ret
        exact ⟨by rw [mayYB_no fun h => absurd (hq h).n1 (by simp only; omega)]; rfl, bx⟩
      by_cases qn2 : 5 < n
      · go_wp2_with fail
        go_ret
        exact ⟨by rw [mayYB_no fun h => absurd (hq h).n2 (by simp only; omega)]; rfl, bx⟩
      by_cases qw1 : wd < 0
      · go_wp2_with fail
        go_ret
        exact ⟨by rw [mayYB_no fun h => absurd (hq h).w1 (by simp only; omega)]; rfl, bx⟩
      by_cases qw2 : 6 < wd
      · go_wp2_with fail
        go_ret
        exact ⟨by rw [mayYB_no fun h => absurd (hq h).w2 (by simp only; omega)]; rfl, bx⟩
      by_cases qs1 : s < 0
      · go_wp2_with fail
        go_ret
        exact ⟨by rw [mayYB_no fun h => absurd (hq h).s1 (by simp only; omega)]; rfl, bx⟩
      by_cases qs2 : 86400 ≤ s
      · go_wp2_with fail
        go_ret
        exact ⟨by rw [mayYB_no fun h => absurd (hq h).s2 (by simp only; omega)]; rfl, bx⟩
      have oo := fun h => YrOk.mk (y := ⟨m, n, wd, s, o⟩) (by simp only; omega) (by simp only; omega) (by simp only; omega) (by simp only; omega) (by simp only; omega) (by simp only; omega) (by simp only; omega) (by simp only; omega) h
      by_cases q : OffOk o
      · have qt := decide_eq_true q
        go_wp2_with fail
        refine (offset_any _ _).mono ?_
        rintro e w3 ⟨rfl, rfl⟩
        rw [qt]
        go_wp2_with fail
        go_roundw
        case rel => exact ⟨j + 1, by omega, by simp, hN (oo q), bx⟩
        case measure => simp [intOf]; omega
      · have qt := decide_eq_false q
        go_wp2_with fail
        refine (offset_any _ _).mono ?_
        rintro e w3 ⟨rfl, rfl⟩
        rw [qt]
        go_wp2_with fail
        go_ret
        exact ⟨by rw [mayYB_no fun h => absurd (hq h).o q]; rfl, bx⟩
    · obtain rfl : j = 2 := by omega
      have h3 := hL.out
      have hZ := hZ.out
      subst h3
      have l2 : [x, z].length = 2 := rfl
      have ya := hU 0 (by omega) (by omega)
      have yb := hU 1 (by omega) (by omega)
      simp only [List.getElem_cons_zero, List.getElem_cons_succ] at ya yb
      obtain ⟨ad, rfl, hbl, p0, -⟩ := hZ.below (b.mono hB) 0 (by omega)
      obtain ⟨ad', e', hbl', p0', -⟩ := hZ.below (b.mono hB) 1 (by omega)
      injection e' with e'
      subst e'
      simp only [List.getElem_cons_zero, List.getElem_cons_succ] at p0 p0'
      have hM2 := fun h1 h2 => MayY.mk (a := x) (b := z) ya yb h1 h2
      have hM3 : MayY x z → 2 ≤ z.m - x.m ∧ z.m - x.m ≤ 10 := fun h => ⟨h.lo, h.hi⟩
      clear hM hU ha hZ hL
      obtain ⟨am1, am2⟩ := And.intro ya.m1 ya.m2
      obtain ⟨bm1, bm2⟩ := And.intro yb.m1 yb.m2
      clear ya yb
      generalize hmb : mayYB x z = tt
      have hmb := Lib.hid hmb
      have hB2 := hmb.out
      obtain ⟨xm, hxm⟩ : ∃ v, v = x.m := ⟨_, rfl⟩
      obtain ⟨zm, hzm⟩ : ∃ v, v = z.m := ⟨_, rfl⟩
      rw [← hxm] at p0 am1 am2 hM2 hM3
      rw [← hzm] at p0' bm1 bm2 hM2 hM3
      clear hxm hzm hB2
      have q0 : wr.drew.cell? ad = some (.int .i64 xm) := p0
      have q1 : wr.drew.cell? ⟨ad.block, ad.off + 5, none⟩ = some (.int .i64 zm) := p0'
      have b := b.drew
      clear p0 p0'
      generalize hwd : wr.drew = wd at q0 q1 b
      go_wp2_with fail
      by_cases k1 : 2 ≤ zm - xm
      · by_cases k2 : zm - xm ≤ 10
        · have hv := Lib.hid (mayYB_yes (hM2 k1 k2))
          clear hM2 hM3
          refine wp_region_held_drew (S := fun w9 => w9 = wd) (by kernel_rfl) hwd (fun _ => ?_)
          refine wpAnyH_take (i := 0) (oi := { dst := some 57, op := Op.move (Operand.tmp 0), type := 23, pos := "zone.go:28", after := #[], guard := none }) (v := ?_) rfl (by kernel_rfl) (by kernel_rfl) (by kernel_rfl) (fun _ _ _ h => h) (Or.inl ⟨by rfl, ?_⟩) (by trivial) ?_
          rotate_left
          (focus (intro w hSw; subst hSw; go_simp <;> with_reducible rfl))
          try simp only [Act.put, List.setIfInBounds_toArray, List.set_cons_zero, List.set_cons_succ]
          refine wpAnyH_take (i := 1) (oi := { dst := some 58, op := Op.indexAddr 23 (Operand.tmp 57) (Operand.const (Value.int IntKind.i64 1)), type := 0, pos := "zone.go:28", after := #[{ on := 0, ground := Ground.data }], guard := none }) (v := ?_) rfl (by kernel_rfl) (by kernel_rfl) (by kernel_rfl) (fun _ _ _ h => h) (Or.inl ⟨by rfl, ?_⟩) (by trivial) ?_
          rotate_left
          (focus (intro w hSw; subst hSw; go_simp <;> with_reducible rfl))
          try simp only [Act.put, List.setIfInBounds_toArray, List.set_cons_zero, List.set_cons_succ]
          refine wpAnyH_take (i := 2) (oi := { dst := some 59, op := Op.fieldAddr 50 (Operand.tmp 58) 0, type := 0, pos := "zone.go:28", after := #[{ on := 1, ground := Ground.data }], guard := none }) (v := ?_) rfl (by kernel_rfl) (by kernel_rfl) (by kernel_rfl) (fun _ _ _ h => h) (Or.inl ⟨by rfl, ?_⟩) (by trivial) ?_
          rotate_left
          (focus (intro w hSw; subst hSw; go_simp <;> with_reducible rfl))
          try simp only [Act.put, List.setIfInBounds_toArray, List.set_cons_zero, List.set_cons_succ]
          refine wpAnyH_take (i := 3) (oi := { dst := some 60, op := Op.load 3 (Operand.tmp 59), type := 3, pos := "zone.go:28", after := #[{ on := 2, ground := Ground.data }], guard := none }) (v := ?_) rfl (by kernel_rfl) (by kernel_rfl) (by kernel_rfl) (fun _ _ _ h => h) (Or.inl ⟨by rfl, ?_⟩) (by trivial) ?_
          rotate_left
          (focus (intro w hSw; subst hSw; go_simp <;> with_reducible rfl))
          try simp only [Act.put, List.setIfInBounds_toArray, List.set_cons_zero, List.set_cons_succ]
          refine wpAnyH_take (i := 4) (oi := { dst := some 61, op := Op.move (Operand.tmp 0), type := 23, pos := "zone.go:28", after := #[], guard := none }) (v := ?_) rfl (by kernel_rfl) (by kernel_rfl) (by kernel_rfl) (fun _ _ _ h => h) (Or.inl ⟨by rfl, ?_⟩) (by trivial) ?_
          rotate_left
          (focus (intro w hSw; subst hSw; go_simp <;> with_reducible rfl))
          try simp only [Act.put, List.setIfInBounds_toArray, List.set_cons_zero, List.set_cons_succ]
          refine wpAnyH_take (i := 5) (oi := { dst := some 62, op := Op.indexAddr 23 (Operand.tmp 61) (Operand.const (Value.int IntKind.i64 0)), type := 0, pos := "zone.go:28", after := #[{ on := 4, ground := Ground.data }], guard := none }) (v := ?_) rfl (by kernel_rfl) (by kernel_rfl) (by kernel_rfl) (fun _ _ _ h => h) (Or.inl ⟨by rfl, ?_⟩) (by trivial) ?_
          rotate_left
          (focus (intro w hSw; subst hSw; go_simp <;> with_reducible rfl))
          try simp only [Act.put, List.setIfInBounds_toArray, List.set_cons_zero, List.set_cons_succ]
          refine wpAnyH_take (i := 6) (oi := { dst := some 63, op := Op.fieldAddr 50 (Operand.tmp 62) 0, type := 0, pos := "zone.go:28", after := #[{ on := 5, ground := Ground.data }], guard := none }) (v := ?_) rfl (by kernel_rfl) (by kernel_rfl) (by kernel_rfl) (fun _ _ _ h => h) (Or.inl ⟨by rfl, ?_⟩) (by trivial) ?_
          rotate_left
          (focus (intro w hSw; subst hSw; go_simp <;> with_reducible rfl))
          try simp only [Act.put, List.setIfInBounds_toArray, List.set_cons_zero, List.set_cons_succ]
          refine wpAnyH_take (i := 7) (oi := { dst := some 64, op := Op.load 3 (Operand.tmp 63), type := 3, pos := "zone.go:28", after := #[{ on := 6, ground := Ground.data }], guard := none }) (v := ?_) rfl (by kernel_rfl) (by kernel_rfl) (by kernel_rfl) (fun _ _ _ h => h) (Or.inl ⟨by rfl, ?_⟩) (by trivial) ?_
          rotate_left
          (focus (intro w hSw; subst hSw; go_simp <;> with_reducible rfl))
          try simp only [Act.put, List.setIfInBounds_toArray, List.set_cons_zero, List.set_cons_succ]
          refine wpAnyH_take (i := 8) (oi := { dst := some 65, op := Op.binOp BinOp.sub 3 (Operand.tmp 60) (Operand.tmp 64) 3, type := 3, pos := "zone.go:28", after := #[{ on := 3, ground := Ground.data }, { on := 7, ground := Ground.data }], guard := none }) (v := ?_) rfl (by kernel_rfl) (by kernel_rfl) (by kernel_rfl) (fun _ _ _ h => h) (Or.inl ⟨by rfl, ?_⟩) (by trivial) ?_
          rotate_left
          (focus (intro w hSw; subst hSw; go_simp <;> with_reducible rfl))
          try simp only [Act.put, List.setIfInBounds_toArray, List.set_cons_zero, List.set_cons_succ]
          refine wpAnyH_take (i := 9) (oi := { dst := some 5, op := Op.assign (Operand.tmp 65), type := 3, pos := "zone.go:28", after := #[{ on := 8, ground := Ground.data }, { on := 0, ground := Ground.phase }, { on := 1, ground := Ground.phase }, { on := 2, ground := Ground.phase }, { on := 3, ground := Ground.phase }, { on := 4, ground := Ground.phase }, { on := 5, ground := Ground.phase }, { on := 6, ground := Ground.phase }, { on := 7, ground := Ground.phase }, { on := 8, ground := Ground.phase }], guard := none }) (v := ?_) rfl (by kernel_rfl) (by kernel_rfl) (by kernel_rfl) (fun _ _ _ h => h) (Or.inl ⟨by rfl, ?_⟩) (by trivial) ?_
          rotate_left
          (focus (intro w hSw; subst hSw; go_simp <;> with_reducible rfl))
          try simp only [Act.put, List.setIfInBounds_toArray, List.set_cons_zero, List.set_cons_succ]
          refine wpAnyH_done (by kernel_rfl) ?_ _
          go_wp2_with fail
          go_ret
          exact ⟨by first | (rw [hv.out]; rfl) | (rw [← hmb.out, hv.out]; rfl), b⟩
        · have hv := Lib.hid (mayYB_no fun h => absurd (hM3 h).2 k2)
          clear hM2 hM3
          refine wp_region_held_drew (S := fun w9 => w9 = wd) (by kernel_rfl) hwd (fun _ => ?_)
          refine wpAnyH_take (i := 0) (oi := { dst := some 57, op := Op.move (Operand.tmp 0), type := 23, pos := "zone.go:28", after := #[], guard := none }) (v := ?_) rfl (by kernel_rfl) (by kernel_rfl) (by kernel_rfl) (fun _ _ _ h => h) (Or.inl ⟨by rfl, ?_⟩) (by trivial) ?_
          rotate_left
          (focus (intro w hSw; subst hSw; go_simp <;> with_reducible rfl))
          try simp only [Act.put, List.setIfInBounds_toArray, List.set_cons_zero, List.set_cons_succ]
          refine wpAnyH_take (i := 1) (oi := { dst := some 58, op := Op.indexAddr 23 (Operand.tmp 57) (Operand.const (Value.int IntKind.i64 1)), type := 0, pos := "zone.go:28", after := #[{ on := 0, ground := Ground.data }], guard := none }) (v := ?_) rfl (by kernel_rfl) (by kernel_rfl) (by kernel_rfl) (fun _ _ _ h => h) (Or.inl ⟨by rfl, ?_⟩) (by trivial) ?_
          rotate_left
          (focus (intro w hSw; subst hSw; go_simp <;> with_reducible rfl))
          try simp only [Act.put, List.setIfInBounds_toArray, List.set_cons_zero, List.set_cons_succ]
          refine wpAnyH_take (i := 2) (oi := { dst := some 59, op := Op.fieldAddr 50 (Operand.tmp 58) 0, type := 0, pos := "zone.go:28", after := #[{ on := 1, ground := Ground.data }], guard := none }) (v := ?_) rfl (by kernel_rfl) (by kernel_rfl) (by kernel_rfl) (fun _ _ _ h => h) (Or.inl ⟨by rfl, ?_⟩) (by trivial) ?_
          rotate_left
          (focus (intro w hSw; subst hSw; go_simp <;> with_reducible rfl))
          try simp only [Act.put, List.setIfInBounds_toArray, List.set_cons_zero, List.set_cons_succ]
          refine wpAnyH_take (i := 3) (oi := { dst := some 60, op := Op.load 3 (Operand.tmp 59), type := 3, pos := "zone.go:28", after := #[{ on := 2, ground := Ground.data }], guard := none }) (v := ?_) rfl (by kernel_rfl) (by kernel_rfl) (by kernel_rfl) (fun _ _ _ h => h) (Or.inl ⟨by rfl, ?_⟩) (by trivial) ?_
          rotate_left
          (focus (intro w hSw; subst hSw; go_simp <;> with_reducible rfl))
          try simp only [Act.put, List.setIfInBounds_toArray, List.set_cons_zero, List.set_cons_succ]
          refine wpAnyH_take (i := 4) (oi := { dst := some 61, op := Op.move (Operand.tmp 0), type := 23, pos := "zone.go:28", after := #[], guard := none }) (v := ?_) rfl (by kernel_rfl) (by kernel_rfl) (by kernel_rfl) (fun _ _ _ h => h) (Or.inl ⟨by rfl, ?_⟩) (by trivial) ?_
          rotate_left
          (focus (intro w hSw; subst hSw; go_simp <;> with_reducible rfl))
          try simp only [Act.put, List.setIfInBounds_toArray, List.set_cons_zero, List.set_cons_succ]
          refine wpAnyH_take (i := 5) (oi := { dst := some 62, op := Op.indexAddr 23 (Operand.tmp 61) (Operand.const (Value.int IntKind.i64 0)), type := 0, pos := "zone.go:28", after := #[{ on := 4, ground := Ground.data }], guard := none }) (v := ?_) rfl (by kernel_rfl) (by kernel_rfl) (by kernel_rfl) (fun _ _ _ h => h) (Or.inl ⟨by rfl, ?_⟩) (by trivial) ?_
          rotate_left
          (focus (intro w hSw; subst hSw; go_simp <;> with_reducible rfl))
          try simp only [Act.put, List.setIfInBounds_toArray, List.set_cons_zero, List.set_cons_succ]
          refine wpAnyH_take (i := 6) (oi := { dst := some 63, op := Op.fieldAddr 50 (Operand.tmp 62) 0, type := 0, pos := "zone.go:28", after := #[{ on := 5, ground := Ground.data }], guard := none }) (v := ?_) rfl (by kernel_rfl) (by kernel_rfl) (by kernel_rfl) (fun _ _ _ h => h) (Or.inl ⟨by rfl, ?_⟩) (by trivial) ?_
          rotate_left
          (focus (intro w hSw; subst hSw; go_simp <;> with_reducible rfl))
          try simp only [Act.put, List.setIfInBounds_toArray, List.set_cons_zero, List.set_cons_succ]
          refine wpAnyH_take (i := 7) (oi := { dst := some 64, op := Op.load 3 (Operand.tmp 63), type := 3, pos := "zone.go:28", after := #[{ on := 6, ground := Ground.data }], guard := none }) (v := ?_) rfl (by kernel_rfl) (by kernel_rfl) (by kernel_rfl) (fun _ _ _ h => h) (Or.inl ⟨by rfl, ?_⟩) (by trivial) ?_
          rotate_left
          (focus (intro w hSw; subst hSw; go_simp <;> with_reducible rfl))
          try simp only [Act.put, List.setIfInBounds_toArray, List.set_cons_zero, List.set_cons_succ]
          refine wpAnyH_take (i := 8) (oi := { dst := some 65, op := Op.binOp BinOp.sub 3 (Operand.tmp 60) (Operand.tmp 64) 3, type := 3, pos := "zone.go:28", after := #[{ on := 3, ground := Ground.data }, { on := 7, ground := Ground.data }], guard := none }) (v := ?_) rfl (by kernel_rfl) (by kernel_rfl) (by kernel_rfl) (fun _ _ _ h => h) (Or.inl ⟨by rfl, ?_⟩) (by trivial) ?_
          rotate_left
          (focus (intro w hSw; subst hSw; go_simp <;> with_reducible rfl))
          try simp only [Act.put, List.setIfInBounds_toArray, List.set_cons_zero, List.set_cons_succ]
          refine wpAnyH_take (i := 9) (oi := { dst := some 5, op := Op.assign (Operand.tmp 65), type := 3, pos := "zone.go:28", after := #[{ on := 8, ground := Ground.data }, { on := 0, ground := Ground.phase }, { on := 1, ground := Ground.phase }, { on := 2, ground := Ground.phase }, { on := 3, ground := Ground.phase }, { on := 4, ground := Ground.phase }, { on := 5, ground := Ground.phase }, { on := 6, ground := Ground.phase }, { on := 7, ground := Ground.phase }, { on := 8, ground := Ground.phase }], guard := none }) (v := ?_) rfl (by kernel_rfl) (by kernel_rfl) (by kernel_rfl) (fun _ _ _ h => h) (Or.inl ⟨by rfl, ?_⟩) (by trivial) ?_
          rotate_left
          (focus (intro w hSw; subst hSw; go_simp <;> with_reducible rfl))
          try simp only [Act.put, List.setIfInBounds_toArray, List.set_cons_zero, List.set_cons_succ]
          refine wpAnyH_done (by kernel_rfl) ?_ _
          go_wp2_with fail
          go_ret
          exact ⟨by first | (rw [hv.out]; rfl) | (rw [← hmb.out, hv.out]; rfl), b⟩
      · have hv := Lib.hid (mayYB_no fun h => absurd (hM3 h).1 k1)
        clear hM2 hM3
        refine wp_region_held_drew (S := fun w9 => w9 = wd) (by kernel_rfl) hwd (fun _ => ?_)
        refine wpAnyH_take (i := 0) (oi := { dst := some 57, op := Op.move (Operand.tmp 0), type := 23, pos := "zone.go:28", after := #[], guard := none }) (v := ?_) rfl (by kernel_rfl) (by kernel_rfl) (by kernel_rfl) (fun _ _ _ h => h) (Or.inl ⟨by rfl, ?_⟩) (by trivial) ?_
        rotate_left
        (focus (intro w hSw; subst hSw; go_simp <;> with_reducible rfl))
        try simp only [Act.put, List.setIfInBounds_toArray, List.set_cons_zero, List.set_cons_succ]
        refine wpAnyH_take (i := 1) (oi := { dst := some 58, op := Op.indexAddr 23 (Operand.tmp 57) (Operand.const (Value.int IntKind.i64 1)), type := 0, pos := "zone.go:28", after := #[{ on := 0, ground := Ground.data }], guard := none }) (v := ?_) rfl (by kernel_rfl) (by kernel_rfl) (by kernel_rfl) (fun _ _ _ h => h) (Or.inl ⟨by rfl, ?_⟩) (by trivial) ?_
        rotate_left
        (focus (intro w hSw; subst hSw; go_simp <;> with_reducible rfl))
        try simp only [Act.put, List.setIfInBounds_toArray, List.set_cons_zero, List.set_cons_succ]
        refine wpAnyH_take (i := 2) (oi := { dst := some 59, op := Op.fieldAddr 50 (Operand.tmp 58) 0, type := 0, pos := "zone.go:28", after := #[{ on := 1, ground := Ground.data }], guard := none }) (v := ?_) rfl (by kernel_rfl) (by kernel_rfl) (by kernel_rfl) (fun _ _ _ h => h) (Or.inl ⟨by rfl, ?_⟩) (by trivial) ?_
        rotate_left
        (focus (intro w hSw; subst hSw; go_simp <;> with_reducible rfl))
        try simp only [Act.put, List.setIfInBounds_toArray, List.set_cons_zero, List.set_cons_succ]
        refine wpAnyH_take (i := 3) (oi := { dst := some 60, op := Op.load 3 (Operand.tmp 59), type := 3, pos := "zone.go:28", after := #[{ on := 2, ground := Ground.data }], guard := none }) (v := ?_) rfl (by kernel_rfl) (by kernel_rfl) (by kernel_rfl) (fun _ _ _ h => h) (Or.inl ⟨by rfl, ?_⟩) (by trivial) ?_
        rotate_left
        (focus (intro w hSw; subst hSw; go_simp <;> with_reducible rfl))
        try simp only [Act.put, List.setIfInBounds_toArray, List.set_cons_zero, List.set_cons_succ]
        refine wpAnyH_take (i := 4) (oi := { dst := some 61, op := Op.move (Operand.tmp 0), type := 23, pos := "zone.go:28", after := #[], guard := none }) (v := ?_) rfl (by kernel_rfl) (by kernel_rfl) (by kernel_rfl) (fun _ _ _ h => h) (Or.inl ⟨by rfl, ?_⟩) (by trivial) ?_
        rotate_left
        (focus (intro w hSw; subst hSw; go_simp <;> with_reducible rfl))
        try simp only [Act.put, List.setIfInBounds_toArray, List.set_cons_zero, List.set_cons_succ]
        refine wpAnyH_take (i := 5) (oi := { dst := some 62, op := Op.indexAddr 23 (Operand.tmp 61) (Operand.const (Value.int IntKind.i64 0)), type := 0, pos := "zone.go:28", after := #[{ on := 4, ground := Ground.data }], guard := none }) (v := ?_) rfl (by kernel_rfl) (by kernel_rfl) (by kernel_rfl) (fun _ _ _ h => h) (Or.inl ⟨by rfl, ?_⟩) (by trivial) ?_
        rotate_left
        (focus (intro w hSw; subst hSw; go_simp <;> with_reducible rfl))
        try simp only [Act.put, List.setIfInBounds_toArray, List.set_cons_zero, List.set_cons_succ]
        refine wpAnyH_take (i := 6) (oi := { dst := some 63, op := Op.fieldAddr 50 (Operand.tmp 62) 0, type := 0, pos := "zone.go:28", after := #[{ on := 5, ground := Ground.data }], guard := none }) (v := ?_) rfl (by kernel_rfl) (by kernel_rfl) (by kernel_rfl) (fun _ _ _ h => h) (Or.inl ⟨by rfl, ?_⟩) (by trivial) ?_
        rotate_left
        (focus (intro w hSw; subst hSw; go_simp <;> with_reducible rfl))
        try simp only [Act.put, List.setIfInBounds_toArray, List.set_cons_zero, List.set_cons_succ]
        refine wpAnyH_take (i := 7) (oi := { dst := some 64, op := Op.load 3 (Operand.tmp 63), type := 3, pos := "zone.go:28", after := #[{ on := 6, ground := Ground.data }], guard := none }) (v := ?_) rfl (by kernel_rfl) (by kernel_rfl) (by kernel_rfl) (fun _ _ _ h => h) (Or.inl ⟨by rfl, ?_⟩) (by trivial) ?_
        rotate_left
        (focus (intro w hSw; subst hSw; go_simp <;> with_reducible rfl))
        try simp only [Act.put, List.setIfInBounds_toArray, List.set_cons_zero, List.set_cons_succ]
        refine wpAnyH_take (i := 8) (oi := { dst := some 65, op := Op.binOp BinOp.sub 3 (Operand.tmp 60) (Operand.tmp 64) 3, type := 3, pos := "zone.go:28", after := #[{ on := 3, ground := Ground.data }, { on := 7, ground := Ground.data }], guard := none }) (v := ?_) rfl (by kernel_rfl) (by kernel_rfl) (by kernel_rfl) (fun _ _ _ h => h) (Or.inl ⟨by rfl, ?_⟩) (by trivial) ?_
        rotate_left
        (focus (intro w hSw; subst hSw; go_simp <;> with_reducible rfl))
        try simp only [Act.put, List.setIfInBounds_toArray, List.set_cons_zero, List.set_cons_succ]
        refine wpAnyH_take (i := 9) (oi := { dst := some 5, op := Op.assign (Operand.tmp 65), type := 3, pos := "zone.go:28", after := #[{ on := 8, ground := Ground.data }, { on := 0, ground := Ground.phase }, { on := 1, ground := Ground.phase }, { on := 2, ground := Ground.phase }, { on := 3, ground := Ground.phase }, { on := 4, ground := Ground.phase }, { on := 5, ground := Ground.phase }, { on := 6, ground := Ground.phase }, { on := 7, ground := Ground.phase }, { on := 8, ground := Ground.phase }], guard := none }) (v := ?_) rfl (by kernel_rfl) (by kernel_rfl) (by kernel_rfl) (fun _ _ _ h => h) (Or.inl ⟨by rfl, ?_⟩) (by trivial) ?_
        rotate_left
        (focus (intro w hSw; subst hSw; go_simp <;> with_reducible rfl))
        try simp only [Act.put, List.setIfInBounds_toArray, List.set_cons_zero, List.set_cons_succ]
        refine wpAnyH_done (by kernel_rfl) ?_ _
        go_wp2_with fail
        go_ret
        exact ⟨by first | (rw [hv.out]; rfl) | (rw [← hmb.out, hv.out]; rfl), b⟩
end Go.Proofs.Ytbnchbcdgffkaaa
