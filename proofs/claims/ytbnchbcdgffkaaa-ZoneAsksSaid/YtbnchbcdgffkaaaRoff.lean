/- vokref1.Offset, Local, UTC. -/
import Derived.Test.YtbnchbcdgffkaaaRbef
namespace Go.Proofs.Ytbnchbcdgffkaaa
open Go.RowKit
set_option linter.unusedVariables false
set_option maxHeartbeats 4000000 in
theorem roffset_any {bs : Int} {A A' : Option Addr} {c c' : Nat} {fr u : Int} {L : List Sh} {Y : List Yr} {B : Nat} {w : World} (hz : ZAt w B A A' L Y) (hB : B ≤ w.heap.size) :
    Calls Try.prog 21 #[zv bs A L.length c A' Y.length c' fr, .int .i64 u] w fun e w' => ∃ o, e = .returned (.int .i64 o) ∧ Below w.heap.size w w' ∧ (Fine bs L Y fr u → IsOff bs (IsShift L Y fr) u o) ∧ (¬ Fine bs L Y fr u → o = 0) := by
  replace hz := hz.mono hB
  clear hB
  by_cases qm : MayZ bs L Y fr
  · have mt := mayZB_yes qm
    by_cases qt : MayT u
    · have tt := decide_eq_true qt
      go_enter Try.func21, Try.ntmps21
      go_wp2_with fail
      have s : St w (w.alloc (zo bs A L.length c A' Y.length c' fr)) w.heap.size bs A c A' c' fr L Y := St.new_ hz
      generalize w.alloc (zo bs A L.length c A' Y.length c' fr) = w1 at s ⊢
      obtain ⟨lt, c0, c1, c2, c3⟩ := s.cells
      refine (rmayZone_any bs A c A' c' fr L Y _ _ s.z s.le).mono ?_
      rintro e wz ⟨rfl, bb⟩
      replace s := s.step bb
      clear bb lt c0 c1 c2 c3
      obtain ⟨lt, c0, c1, c2, c3⟩ := s.cells
      rw [mt]
      go_wp2_with fail
      refine (rmay_any u _).mono ?_
      rintro e w9 ⟨rfl, rfl⟩
      rw [tt]
      go_wp2_with fail
      refine (rbefore_any s.z s.le).mono ?_
      rintro e wz ⟨r, rfl, bb, hr, -⟩
      replace s := s.step bb
      clear bb lt c0 c1 c2 c3
      obtain ⟨lt, c0, c1, c2, c3⟩ := s.cells
      replace hr := Lib.hid (hr ⟨qt, qm⟩)
      cases r with
      | some a =>
        simp only [shv]
        have b4 := s.b.alloc s.le (.cells #[.int .i64 a.at_, .int .i64 a.off] 29)
        go_wp2_with fail
        go_ret
        exact ⟨_, rfl, b4, fun _ => ⟨_, hr.out, rfl⟩, fun h => absurd ⟨qt, qm⟩ h⟩
      | none =>
        simp only [shv]
        have b4 := s.b.alloc s.le (.cells #[.int .i64 0, .int .i64 0] 29)
        go_wp2_with fail
        go_ret
        exact ⟨_, rfl, b4, fun _ => ⟨_, hr.out, rfl⟩, fun h => absurd ⟨qt, qm⟩ h⟩
    · have tt := decide_eq_false qt
      go_enter Try.func21, Try.ntmps21
      go_wp2_with fail
      have s : St w (w.alloc (zo bs A L.length c A' Y.length c' fr)) w.heap.size bs A c A' c' fr L Y := St.new_ hz
      generalize w.alloc (zo bs A L.length c A' Y.length c' fr) = w1 at s ⊢
      obtain ⟨lt, c0, c1, c2, c3⟩ := s.cells
      refine (rmayZone_any bs A c A' c' fr L Y _ _ s.z s.le).mono ?_
      rintro e wz ⟨rfl, bb⟩
      replace s := s.step bb
      clear bb lt c0 c1 c2 c3
      obtain ⟨lt, c0, c1, c2, c3⟩ := s.cells
      rw [mt]
      go_wp2_with fail
      refine (rmay_any u _).mono ?_
      rintro e w9 ⟨rfl, rfl⟩
      rw [tt]
      go_wp2_with fail
      go_ret
      exact ⟨0, rfl, s.b, fun h => absurd h (fun h => qt h.1), fun _ => rfl⟩
  · have mt := mayZB_no qm
    go_enter Try.func21, Try.ntmps21
    go_wp2_with fail
    have s : St w (w.alloc (zo bs A L.length c A' Y.length c' fr)) w.heap.size bs A c A' c' fr L Y := St.new_ hz
    generalize w.alloc (zo bs A L.length c A' Y.length c' fr) = w1 at s ⊢
    obtain ⟨lt, c0, c1, c2, c3⟩ := s.cells
    refine (rmayZone_any bs A c A' c' fr L Y _ _ s.z s.le).mono ?_
    rintro e wz ⟨rfl, bb⟩
    replace s := s.step bb
    clear bb lt c0 c1 c2 c3
    obtain ⟨lt, c0, c1, c2, c3⟩ := s.cells
    rw [mt]
    go_wp2_with fail
    go_ret
    exact ⟨0, rfl, s.b, fun h => absurd h (fun h => qm h.2), fun _ => rfl⟩
set_option maxHeartbeats 4000000 in
theorem rlocal_any {bs : Int} {A A' : Option Addr} {c c' : Nat} {fr u : Int} {L : List Sh} {Y : List Yr} {B : Nat} {w : World} (hz : ZAt w B A A' L Y) (hB : B ≤ w.heap.size) :
    Calls Try.prog 23 #[zv bs A L.length c A' Y.length c' fr, .int .i64 u] w fun e w' => ∃ l, e = .returned (.int .i64 l) ∧ Below w.heap.size w w' ∧ (Fine bs L Y fr u → IsOff bs (IsShift L Y fr) u (l - u)) ∧ (¬ Fine bs L Y fr u → l = 0) := by
  replace hz := hz.mono hB
  clear hB
  by_cases qm : MayZ bs L Y fr
  · have mt := mayZB_yes qm
    by_cases qt : MayT u
    · have tt := decide_eq_true qt
      have qt0 := Lib.hid qt
      go_enter Try.func23, Try.ntmps23
      go_wp2_with fail
      have s : St w (w.alloc (zo bs A L.length c A' Y.length c' fr)) w.heap.size bs A c A' c' fr L Y := St.new_ hz
      generalize w.alloc (zo bs A L.length c A' Y.length c' fr) = w1 at s ⊢
      obtain ⟨lt, c0, c1, c2, c3⟩ := s.cells
      refine (rmayZone_any bs A c A' c' fr L Y _ _ s.z s.le).mono ?_
      rintro e wz ⟨rfl, bb⟩
      replace s := s.step bb
      clear bb lt c0 c1 c2 c3
      obtain ⟨lt, c0, c1, c2, c3⟩ := s.cells
      rw [mt]
      go_wp2_with fail
      refine (rmay_any u _).mono ?_
      rintro e w9 ⟨rfl, rfl⟩
      rw [tt]
      go_wp2_with fail
      refine (roffset_any s.z s.le).mono ?_
      rintro e wz ⟨o, rfl, bb, ho, -⟩
      replace s := s.step bb
      clear bb lt c0 c1 c2 c3
      obtain ⟨lt, c0, c1, c2, c3⟩ := s.cells
      replace ho := ho ⟨qt, qm⟩
      obtain ⟨o1, o2⟩ := ho.bd qm.ok.sep qm.base
      replace ho := Lib.hid ho
      obtain ⟨u1, u2⟩ := qt0.out
      have zw : IntKind.i64.wrap (u + o) = u + o := wi64 (by omega) (by omega)
      go_wp2_with fail
      go_ret
      exact ⟨_, rfl, s.b, fun _ => by rw [show u + o - u = o by omega]; exact ho.out, fun h => absurd ⟨qt0.out, qm⟩ h⟩
    · have tt := decide_eq_false qt
      go_enter Try.func23, Try.ntmps23
      go_wp2_with fail
      have s : St w (w.alloc (zo bs A L.length c A' Y.length c' fr)) w.heap.size bs A c A' c' fr L Y := St.new_ hz
      generalize w.alloc (zo bs A L.length c A' Y.length c' fr) = w1 at s ⊢
      obtain ⟨lt, c0, c1, c2, c3⟩ := s.cells
      refine (rmayZone_any bs A c A' c' fr L Y _ _ s.z s.le).mono ?_
      rintro e wz ⟨rfl, bb⟩
      replace s := s.step bb
      clear bb lt c0 c1 c2 c3
      obtain ⟨lt, c0, c1, c2, c3⟩ := s.cells
      rw [mt]
      go_wp2_with fail
      refine (rmay_any u _).mono ?_
      rintro e w9 ⟨rfl, rfl⟩
      rw [tt]
      go_wp2_with fail
      go_ret
      exact ⟨0, rfl, s.b, fun h => absurd h (fun h => qt h.1), fun _ => rfl⟩
  · have mt := mayZB_no qm
    go_enter Try.func23, Try.ntmps23
    go_wp2_with fail
    have s : St w (w.alloc (zo bs A L.length c A' Y.length c' fr)) w.heap.size bs A c A' c' fr L Y := St.new_ hz
    generalize w.alloc (zo bs A L.length c A' Y.length c' fr) = w1 at s ⊢
    obtain ⟨lt, c0, c1, c2, c3⟩ := s.cells
    refine (rmayZone_any bs A c A' c' fr L Y _ _ s.z s.le).mono ?_
    rintro e wz ⟨rfl, bb⟩
    replace s := s.step bb
    clear bb lt c0 c1 c2 c3
    obtain ⟨lt, c0, c1, c2, c3⟩ := s.cells
    rw [mt]
    go_wp2_with fail
    go_ret
    exact ⟨0, rfl, s.b, fun h => absurd h (fun h => qm h.2), fun _ => rfl⟩
/-- An offset holds. -/
theorem year_of {u : Int} (h : MayT u) : ∃ y, 1 ≤ y ∧ y ≤ 9999 ∧ Civ.fst y ≤ u / 86400 ∧ u / 86400 < Civ.fst (y + 1) := by
  obtain ⟨h1, h2⟩ := h
  have e1 : Civ.fst 1 = -719162 := by decide
  have e2 : Civ.fst 10000 = 2932897 := by decide
  have d1 : -719162 ≤ u / 86400 := by omega
  have d2 : u / 86400 < 2932897 := by omega
  generalize u / 86400 = D at *
  clear h1 h2
  have key : ∀ k : Nat, k ≤ 9999 → D < Civ.fst ((k : Int) + 1) → ∃ y, 1 ≤ y ∧ y ≤ 9999 ∧ Civ.fst y ≤ D ∧ D < Civ.fst (y + 1) := by
    intro k
    induction k with
    | zero => intro _ h; rw [show ((0 : Nat) : Int) + 1 = 1 by omega] at h; omega
    | succ k ih =>
      intro hk h
      by_cases q : Civ.fst ((k : Int) + 1) ≤ D
      · exact ⟨(k : Int) + 1, by omega, by omega, q, by rw [show (((k + 1 : Nat)) : Int) + 1 = (k : Int) + 1 + 1 by omega] at h; exact h⟩
      · exact ih (by omega) (by omega)
  exact key 9999 (Nat.le_refl _) (by rw [show ((9999 : Nat) : Int) + 1 = 10000 by omega, e2]; exact d2)
theorem local_ex {bs : Int} {L : List Sh} {Y : List Yr} {fr u : Int} (h : MayZ bs L Y fr) (hu : MayT u) : ∃ o, IsOff bs (IsShift L Y fr) u o := by
  obtain ⟨y, y1, y2, h1, h2⟩ := year_of hu
  exact ⟨_, _, (near_next h.ok y1 y2 h1 h2).bef, rfl⟩
/-- The offset ahead of the window. -/
theorem ahead_law {bs l a o : Int} {P : Sh → Prop} {r : Option Sh} (h : Sep P) (hu : IsUtc bs P l a r) (ho : IsOff bs P (l - 64801) o) : o = a ∨ ∀ s, r = some s → l + 64800 < s.at_ := by
  obtain ⟨⟨q, hq, rfl⟩, ha⟩ := hu
  cases q with
  | none =>
    left
    exact ho.uniq h ⟨none, fun t ht => by have := hq t ht; omega, rfl⟩
  | some x =>
    by_cases e : x.at_ = l - 64800
    · right
      rintro s rfl
      have := ha.2.1
      rcases h.gap x s hq.1 ha.1 with rfl | g | g <;> omega
    · left
      have := hq.2.1
      exact ho.uniq h ⟨some x, ⟨hq.1, by omega, fun t ht hy => hq.2.2 t ht (by omega)⟩, rfl⟩
/-- What the document's UTC tells: o, p: the offsets around; x, y: the two moments in order, with their local times. -/
theorem utc_same {bs l a o p x y la lb : Int} {P : Sh → Prop} {r : Option Sh} (h : Sep P) (hb : OffOk bs) (hu : IsUtc bs P l a r) (ho : IsOff bs P (l - 64801) o) (hp : IsOff bs P (l + 64800) p)
    (hxy : (x = l - o ∧ y = l - p ∧ x ≤ y) ∨ (x = l - p ∧ y = l - o ∧ x < y)) (hx : IsOff bs P x (la - x)) (hy : IsOff bs P y (lb - y)) :
    (l = la → x = utcOf l a r) ∧ (l ≠ la → l = lb → y = utcOf l a r) ∧ (l ≠ la → l ≠ lb → l - o = utcOf l a r) := by
  have hA := ahead_law h hu ho
  obtain ⟨o1, o2⟩ := ho.bd h hb
  obtain ⟨p1, p2⟩ := hp.bd h hb
  have ep := hp.uniq h (hu.win h (by omega) (by omega))
  have ex := hx.uniq h (hu.win h (by omega) (by omega))
  have ey := hy.uniq h (hu.win h (by omega) (by omega))
  obtain ⟨⟨a1, a2⟩, -⟩ := hu.offs h hb
  cases r with
  | none =>
    simp only [offAt] at ep ex ey
    simp only [utcOf]
    omega
  | some s =>
    have s0 := hu.aft.2.1
    simp only [Option.some.injEq] at hA
    replace hA : o = a ∨ l + 64800 < s.at_ := by
      rcases hA with hA | hA
      · exact .inl hA
      · exact .inr (hA s rfl)
    simp only [offAt] at ep ex ey
    simp only [utcOf]
    generalize s.at_ = t at *
    generalize s.off = f at *
    by_cases k1 : l - a < t
    · rw [if_pos k1]
      by_cases e1 : t ≤ l + 64800
      · rw [if_pos e1] at ep
        by_cases e2 : t ≤ x
        · rw [if_pos e2] at ex
          by_cases e3 : t ≤ y
          · rw [if_pos e3] at ey; omega
          · rw [if_neg e3] at ey; omega
        · rw [if_neg e2] at ex
          by_cases e3 : t ≤ y
          · rw [if_pos e3] at ey; omega
          · rw [if_neg e3] at ey; omega
      · rw [if_neg e1] at ep
        rw [if_neg (by omega)] at ex ey
        omega
    · rw [if_neg k1]
      by_cases e1 : t ≤ l + 64800
      · rw [if_pos e1] at ep
        by_cases k2 : t ≤ l - f
        · rw [if_pos k2]
          by_cases e2 : t ≤ x
          · rw [if_pos e2] at ex
            by_cases e3 : t ≤ y
            · rw [if_pos e3] at ey; omega
            · rw [if_neg e3] at ey; omega
          · rw [if_neg e2] at ex
            by_cases e3 : t ≤ y
            · rw [if_pos e3] at ey; omega
            · rw [if_neg e3] at ey; omega
        · rw [if_neg k2]
          by_cases e2 : t ≤ x
          · rw [if_pos e2] at ex
            by_cases e3 : t ≤ y
            · rw [if_pos e3] at ey; omega
            · rw [if_neg e3] at ey; omega
          · rw [if_neg e2] at ex
            by_cases e3 : t ≤ y
            · rw [if_pos e3] at ey; omega
            · rw [if_neg e3] at ey; omega
      · omega
/-- What the document's UTC gives. -/
structure RUtc (bs : Int) (L : List Sh) (Y : List Yr) (fr l v : Int) : Prop where
  yes : Within l → MayZ bs L Y fr → ∀ a r, IsUtc bs (IsShift L Y fr) l a r → v = utcOf l a r
  no : ¬ (Within l ∧ MayZ bs L Y fr) → v = 0
theorem UtcRes.same {bs : Int} {L : List Sh} {Y : List Yr} {fr l v v' : Int} (h : UtcRes bs L Y fr l v) (g : RUtc bs L Y fr l v') : v' = v := by
  by_cases q : Within l ∧ MayZ bs L Y fr
  · obtain ⟨a, r, hu, rfl⟩ := h.yes q.1 q.2
    exact g.yes q.1 q.2 a r hu
  · rw [h.no q, g.no q]
set_option maxRecDepth 100000 in
set_option maxHeartbeats 4000000 in
theorem rutc_any {bs : Int} {A A' : Option Addr} {c c' : Nat} {fr l : Int} {L : List Sh} {Y : List Yr} {B : Nat} {w : World} (hz : ZAt w B A A' L Y) (hB : B ≤ w.heap.size) :
    Calls Try.prog 27 #[zv bs A L.length c A' Y.length c' fr, .int .i64 l] w fun e w' => ∃ v, e = .returned (.int .i64 v) ∧ Below w.heap.size w w' ∧ RUtc bs L Y fr l v := by
  replace hz := hz.mono hB
  clear hB
  have f2 := rfst_any 2 (by omega) (by omega)
  have f9 := rfst_any 9999 (by omega) (by omega)
  rw [show Civ.fst 2 = -718797 by decide] at f2
  rw [show Civ.fst 9999 = 2932532 by decide] at f9
  by_cases qm : MayZ bs L Y fr
  · have mt := mayZB_yes qm
    by_cases q1 : l < -62104060800
    · have q1t := decide_eq_true q1
      go_enter Try.func27, Try.ntmps27
      go_wp2_with fail
      have s : St w (w.alloc (zo bs A L.length c A' Y.length c' fr)) w.heap.size bs A c A' c' fr L Y := St.new_ hz
      generalize w.alloc (zo bs A L.length c A' Y.length c' fr) = w1 at s ⊢
      obtain ⟨lt, c0, c1, c2, c3⟩ := s.cells
      refine (rmayZone_any bs A c A' c' fr L Y _ _ s.z s.le).mono ?_
      rintro e wz ⟨rfl, bb⟩
      replace s := s.step bb
      clear bb lt c0 c1 c2 c3
      obtain ⟨lt, c0, c1, c2, c3⟩ := s.cells
      rw [mt]
      go_wp2_with fail
      refine (f2 _).mono ?_
      rintro e w9 ⟨rfl, rfl⟩
      go_wp2_with fail
      go_ret
      exact ⟨0, rfl, s.b, ⟨fun h1 h2 => absurd h1.1 (by omega), fun _ => rfl⟩⟩
    · have q1t := decide_eq_false q1
      by_cases q2 : 253370764800 ≤ l
      · have q2t := decide_eq_true q2
        go_enter Try.func27, Try.ntmps27
        go_wp2_with fail
        have s : St w (w.alloc (zo bs A L.length c A' Y.length c' fr)) w.heap.size bs A c A' c' fr L Y := St.new_ hz
        generalize w.alloc (zo bs A L.length c A' Y.length c' fr) = w1 at s ⊢
        obtain ⟨lt, c0, c1, c2, c3⟩ := s.cells
        refine (rmayZone_any bs A c A' c' fr L Y _ _ s.z s.le).mono ?_
        rintro e wz ⟨rfl, bb⟩
        replace s := s.step bb
        clear bb lt c0 c1 c2 c3
        obtain ⟨lt, c0, c1, c2, c3⟩ := s.cells
        rw [mt]
        go_wp2_with fail
        refine (f2 _).mono ?_
        rintro e w9 ⟨rfl, rfl⟩
        go_wp2_with fail
        refine (f9 _).mono ?_
        rintro e w9 ⟨rfl, rfl⟩
        go_wp2_with fail
        go_ret
        exact ⟨0, rfl, s.b, ⟨fun h1 h2 => absurd h1.2 (by omega), fun _ => rfl⟩⟩
      · have q2t := decide_eq_false q2
        go_enter Try.func27, Try.ntmps27
        go_wp2_with fail
        have s : St w (w.alloc (zo bs A L.length c A' Y.length c' fr)) w.heap.size bs A c A' c' fr L Y := St.new_ hz
        generalize w.alloc (zo bs A L.length c A' Y.length c' fr) = w1 at s ⊢
        obtain ⟨lt, c0, c1, c2, c3⟩ := s.cells
        refine (rmayZone_any bs A c A' c' fr L Y _ _ s.z s.le).mono ?_
        rintro e wz ⟨rfl, bb⟩
        replace s := s.step bb
        clear bb lt c0 c1 c2 c3
        obtain ⟨lt, c0, c1, c2, c3⟩ := s.cells
        rw [mt]
        go_wp2_with fail
        refine (f2 _).mono ?_
        rintro e w9 ⟨rfl, rfl⟩
        go_wp2_with fail
        refine (f9 _).mono ?_
        rintro e w9 ⟨rfl, rfl⟩
        have hS := qm.ok.sep
        have qm0 := Lib.hid qm
        have hW := Lib.hid (show Within l from ⟨by omega, by omega⟩)
        have hfin : ∀ v w', (∀ a r, IsUtc bs (IsShift L Y fr) l a r → v = utcOf l a r) → Below w.heap.size w w' → ∃ v', Ending.returned (.int .i64 v) = .returned (.int .i64 v') ∧ Below w.heap.size w w' ∧ RUtc bs L Y fr l v' := fun v w' hv b => ⟨v, rfl, b, ⟨fun _ _ => hv, fun h => absurd ⟨hW.out, qm0.out⟩ h⟩⟩
        have hfin := Lib.hid hfin
        go_wp2_with fail
        replace s := s.drew
        clear lt c0 c1 c2 c3
        have zw1 : IntKind.i64.wrap (l - 64800) = l - 64800 := wi64 (by omega) (by omega)
        have zw2 : IntKind.i64.wrap (l - 64800 - 1) = l - 64800 - 1 := wi64 (by omega) (by omega)
        have zw3 : IntKind.i64.wrap (l + 64800) = l + 64800 := wi64 (by omega) (by omega)
        refine wp_region_held_drew (S := fun w9 => St w w9 w.heap.size bs A c A' c' fr L Y) (by kernel_rfl) s (fun _ => ?_)
        refine wpAnyH_take (i := 0) (oi := { dst := some 24, op := Op.load 25 (Operand.tmp 2), type := 25, pos := "ref.go:410", after := #[], guard := none }) (v := ?_) rfl (by kernel_rfl) (by kernel_rfl) (by kernel_rfl) (fun _ _ _ h => h) (Or.inl ⟨by rfl, ?_⟩) (by trivial) ?_
        rotate_left
        (focus (intro w9 hSw; have s9 := hSw; obtain ⟨lt, c0, c1, c2, c3⟩ := s9.cells; go_simp <;> with_reducible rfl))
        try simp only [Act.put, List.setIfInBounds_toArray, List.set_cons_zero, List.set_cons_succ]
        refine wpAnyH_take (i := 1) (oi := { dst := some 25, op := Op.move (Operand.tmp 1), type := 3, pos := "ref.go:410", after := #[], guard := none }) (v := ?_) rfl (by kernel_rfl) (by kernel_rfl) (by kernel_rfl) (fun _ _ _ h => h) (Or.inl ⟨by rfl, ?_⟩) (by trivial) ?_
        rotate_left
        (focus (intro w9 hSw; have s9 := hSw; obtain ⟨lt, c0, c1, c2, c3⟩ := s9.cells; go_simp <;> with_reducible rfl))
        try simp only [Act.put, List.setIfInBounds_toArray, List.set_cons_zero, List.set_cons_succ]
        refine wpAnyH_take (i := 2) (oi := { dst := some 26, op := Op.binOp BinOp.sub 3 (Operand.tmp 25) (Operand.const (Value.int IntKind.i64 64800)) 3, type := 3, pos := "ref.go:410", after := #[{ on := 1, ground := Ground.data }], guard := none }) (v := ?_) rfl (by kernel_rfl) (by kernel_rfl) (by kernel_rfl) (fun _ _ _ h => h) (Or.inl ⟨by rfl, ?_⟩) (by trivial) ?_
        rotate_left
        (focus (intro w9 hSw; have s9 := hSw; obtain ⟨lt, c0, c1, c2, c3⟩ := s9.cells; go_simp <;> with_reducible rfl))
        try simp only [Act.put, List.setIfInBounds_toArray, List.set_cons_zero, List.set_cons_succ]
        refine wpAnyH_take (i := 3) (oi := { dst := some 27, op := Op.binOp BinOp.sub 3 (Operand.tmp 26) (Operand.const (Value.int IntKind.i64 1)) 3, type := 3, pos := "ref.go:410", after := #[{ on := 2, ground := Ground.data }], guard := none }) (v := ?_) rfl (by kernel_rfl) (by kernel_rfl) (by kernel_rfl) (fun _ _ _ h => h) (Or.inl ⟨by rfl, ?_⟩) (by trivial) ?_
        rotate_left
        (focus (intro w9 hSw; have s9 := hSw; obtain ⟨lt, c0, c1, c2, c3⟩ := s9.cells; go_simp <;> with_reducible rfl))
        try simp only [Act.put, List.setIfInBounds_toArray, List.set_cons_zero, List.set_cons_succ]
        refine wpAnyH_take (i := 5) (oi := { dst := some 29, op := Op.load 25 (Operand.tmp 2), type := 25, pos := "ref.go:410", after := #[], guard := none }) (v := ?_) rfl (by kernel_rfl) (by kernel_rfl) (by kernel_rfl) (fun _ _ _ h => h) (Or.inl ⟨by rfl, ?_⟩) (by trivial) ?_
        rotate_left
        (focus (intro w9 hSw; have s9 := hSw; obtain ⟨lt, c0, c1, c2, c3⟩ := s9.cells; go_simp <;> with_reducible rfl))
        try simp only [Act.put, List.setIfInBounds_toArray, List.set_cons_zero, List.set_cons_succ]
        refine wpAnyH_take (i := 6) (oi := { dst := some 30, op := Op.move (Operand.tmp 1), type := 3, pos := "ref.go:410", after := #[], guard := none }) (v := ?_) rfl (by kernel_rfl) (by kernel_rfl) (by kernel_rfl) (fun _ _ _ h => h) (Or.inl ⟨by rfl, ?_⟩) (by trivial) ?_
        rotate_left
        (focus (intro w9 hSw; have s9 := hSw; obtain ⟨lt, c0, c1, c2, c3⟩ := s9.cells; go_simp <;> with_reducible rfl))
        try simp only [Act.put, List.setIfInBounds_toArray, List.set_cons_zero, List.set_cons_succ]
        refine wpAnyH_take (i := 7) (oi := { dst := some 31, op := Op.binOp BinOp.add 3 (Operand.tmp 30) (Operand.const (Value.int IntKind.i64 64800)) 3, type := 3, pos := "ref.go:410", after := #[{ on := 6, ground := Ground.data }], guard := none }) (v := ?_) rfl (by kernel_rfl) (by kernel_rfl) (by kernel_rfl) (fun _ _ _ h => h) (Or.inl ⟨by rfl, ?_⟩) (by trivial) ?_
        rotate_left
        (focus (intro w9 hSw; have s9 := hSw; obtain ⟨lt, c0, c1, c2, c3⟩ := s9.cells; go_simp <;> with_reducible rfl))
        try simp only [Act.put, List.setIfInBounds_toArray, List.set_cons_zero, List.set_cons_succ]
        refine wpAnyH_ready (rs := [4]) (by kernel_rfl) (by simp) ?_
        refine AllReadyH.cons (o := { dst := some 28, op := Op.call { callee := Callee.value (Operand.func 21), args := #[Operand.tmp 24, Operand.tmp 27], argTypes := #[25, 3] }, type := 3, pos := "ref.go:410", after := #[{ on := 0, ground := Ground.data }, { on := 3, ground := Ground.data }], guard := none }) rfl (fun K hK => ?_) AllReadyH.nil
        go_simp
        refine (roffset_any s.z s.le).mono ?_
        rintro e wz ⟨o, rfl, bb, ho, -⟩
        replace s := s.step bb
        clear bb
        replace ho := ho ⟨⟨by omega, by omega⟩, qm0.out⟩
        obtain ⟨o1, o2⟩ := ho.bd hS qm0.out.base
        replace ho := Lib.hid ho
        go_wp2_with fail
        refine hK.out _ _ s (fun _ => ?_)
        clear hK K
        try simp only [Act.put, List.setIfInBounds_toArray, List.set_cons_zero, List.set_cons_succ]
        refine wpAnyH_ready (rs := [8]) (by kernel_rfl) (by simp) ?_
        refine AllReadyH.cons (o := { dst := some 32, op := Op.call { callee := Callee.value (Operand.func 21), args := #[Operand.tmp 29, Operand.tmp 31], argTypes := #[25, 3] }, type := 3, pos := "ref.go:410", after := #[{ on := 5, ground := Ground.data }, { on := 7, ground := Ground.data }, { on := 4, ground := Ground.chain }], guard := none }) rfl (fun K hK => ?_) AllReadyH.nil
        go_simp
        refine (roffset_any s.z s.le).mono ?_
        rintro e wz ⟨p, rfl, bb, hp, -⟩
        replace s := s.step bb
        clear bb
        replace hp := hp ⟨⟨by omega, by omega⟩, qm0.out⟩
        obtain ⟨p1, p2⟩ := hp.bd hS qm0.out.base
        replace hp := Lib.hid hp
        go_wp2_with fail
        refine hK.out _ _ s (fun _ => ?_)
        clear hK K
        try simp only [Act.put, List.setIfInBounds_toArray, List.set_cons_zero, List.set_cons_succ]
        refine wpAnyH_take (i := 9) (oi := { dst := some 5, op := Op.assign (Operand.tmp 28), type := 3, pos := "ref.go:410", after := #[{ on := 4, ground := Ground.data }, { on := 8, ground := Ground.chain }, { on := 0, ground := Ground.phase }, { on := 1, ground := Ground.phase }, { on := 2, ground := Ground.phase }, { on := 3, ground := Ground.phase }, { on := 4, ground := Ground.phase }, { on := 5, ground := Ground.textOnly Departure.lateStores }, { on := 6, ground := Ground.textOnly Departure.lateStores }, { on := 7, ground := Ground.textOnly Departure.lateStores }, { on := 8, ground := Ground.textOnly Departure.lateStoresUnsure }], guard := none }) (v := ?_) rfl (by kernel_rfl) (by kernel_rfl) (by kernel_rfl) (fun _ _ _ h => h) (Or.inl ⟨by rfl, ?_⟩) (by trivial) ?_
        rotate_left
        (focus (intro w9 hSw; have s9 := hSw; obtain ⟨lt, c0, c1, c2, c3⟩ := s9.cells; go_simp <;> with_reducible rfl))
        try simp only [Act.put, List.setIfInBounds_toArray, List.set_cons_zero, List.set_cons_succ]
        refine wpAnyH_take (i := 10) (oi := { dst := some 6, op := Op.assign (Operand.tmp 32), type := 3, pos := "ref.go:410", after := #[{ on := 8, ground := Ground.data }, { on := 9, ground := Ground.chain }, { on := 0, ground := Ground.phase }, { on := 1, ground := Ground.phase }, { on := 2, ground := Ground.phase }, { on := 3, ground := Ground.phase }, { on := 4, ground := Ground.phase }, { on := 5, ground := Ground.phase }, { on := 6, ground := Ground.phase }, { on := 7, ground := Ground.phase }, { on := 8, ground := Ground.phase }, { on := 9, ground := Ground.phase }], guard := none }) (v := ?_) rfl (by kernel_rfl) (by kernel_rfl) (by kernel_rfl) (fun _ _ _ h => h) (Or.inl ⟨by rfl, ?_⟩) (by trivial) ?_
        rotate_left
        (focus (intro w9 hSw; have s9 := hSw; obtain ⟨lt, c0, c1, c2, c3⟩ := s9.cells; go_simp <;> with_reducible rfl))
        try simp only [Act.put, List.setIfInBounds_toArray, List.set_cons_zero, List.set_cons_succ]
        refine wpAnyH_done (by kernel_rfl) ?_ _
        have zo_ : IntKind.i64.wrap (l - o) = l - o := wi64 (by omega) (by omega)
        have zp_ : IntKind.i64.wrap (l - p) = l - p := wi64 (by omega) (by omega)
        obtain ⟨lt, c0, c1, c2, c3⟩ := s.cells
        by_cases k : l - p < l - o
        · have kt := decide_eq_true k
          go_wp2_with fail
          refine (rlocal_any s.z s.le).mono ?_
          rintro e wz ⟨la, rfl, bb, hx, -⟩
          replace s := s.step bb
          clear bb lt c0 c1 c2 c3
          obtain ⟨lt, c0, c1, c2, c3⟩ := s.cells
          replace hx := Lib.hid (hx ⟨⟨by omega, by omega⟩, qm0.out⟩)
          by_cases e1 : l = la
          · have e1t : (l == la) = true := by simpa using e1
            have hx2 := Lib.hid (local_ex qm0.out (u := l - o) ⟨by omega, by omega⟩)
            have e1h := Lib.hid e1
            clear e1
            go_wp2_with fail
            go_ret
            refine hfin.out _ _ (fun a r hu => ?_) s.b
            obtain ⟨q, hq⟩ := hx2.out
            refine (utc_same hS qm0.out.base hu ?_ hp.out (lb := l - o + q) (.inr ⟨rfl, rfl, by omega⟩) hx.out ?_).1 e1h.out
            · rw [show l - 64801 = l - 64800 - 1 by omega]; exact ho.out
            · rw [show l - o + q - (l - o) = q by omega]; exact hq
          · have e1t : (l == la) = false := by simpa using e1
            have e1h := Lib.hid e1
            clear e1
            go_wp2_with fail
            refine (rlocal_any s.z s.le).mono ?_
            rintro e wz ⟨lb, rfl, bb, hy, -⟩
            replace s := s.step bb
            clear bb lt c0 c1 c2 c3
            obtain ⟨lt, c0, c1, c2, c3⟩ := s.cells
            replace hy := Lib.hid (hy ⟨⟨by omega, by omega⟩, qm0.out⟩)
            by_cases e2 : l = lb
            · have e2t : (l == lb) = true := by simpa using e2
              have e2h := Lib.hid e2
              clear e2
              go_wp2_with fail
              go_ret
              refine hfin.out _ _ (fun a r hu => ?_) s.b
              refine (utc_same hS qm0.out.base hu ?_ hp.out (.inr ⟨rfl, rfl, by omega⟩) hx.out hy.out).2.1 e1h.out e2h.out
              rw [show l - 64801 = l - 64800 - 1 by omega]; exact ho.out
            · have e2t : (l == lb) = false := by simpa using e2
              have e2h := Lib.hid e2
              clear e2
              go_wp2_with fail
              go_ret
              refine hfin.out _ _ (fun a r hu => ?_) s.b
              refine (utc_same hS qm0.out.base hu ?_ hp.out (.inr ⟨rfl, rfl, by omega⟩) hx.out hy.out).2.2 e1h.out e2h.out
              rw [show l - 64801 = l - 64800 - 1 by omega]; exact ho.out
        · have kt := decide_eq_false k
          go_wp2_with fail
          refine (rlocal_any s.z s.le).mono ?_
          rintro e wz ⟨la, rfl, bb, hx, -⟩
          replace s := s.step bb
          clear bb lt c0 c1 c2 c3
          obtain ⟨lt, c0, c1, c2, c3⟩ := s.cells
          replace hx := Lib.hid (hx ⟨⟨by omega, by omega⟩, qm0.out⟩)
          by_cases e1 : l = la
          · have e1t : (l == la) = true := by simpa using e1
            have hx2 := Lib.hid (local_ex qm0.out (u := l - p) ⟨by omega, by omega⟩)
            have e1h := Lib.hid e1
            clear e1
            go_wp2_with fail
            go_ret
            refine hfin.out _ _ (fun a r hu => ?_) s.b
            obtain ⟨q, hq⟩ := hx2.out
            refine (utc_same hS qm0.out.base hu ?_ hp.out (lb := l - p + q) (.inl ⟨rfl, rfl, by omega⟩) hx.out ?_).1 e1h.out
            · rw [show l - 64801 = l - 64800 - 1 by omega]; exact ho.out
            · rw [show l - p + q - (l - p) = q by omega]; exact hq
          · have e1t : (l == la) = false := by simpa using e1
            have e1h := Lib.hid e1
            clear e1
            go_wp2_with fail
            refine (rlocal_any s.z s.le).mono ?_
            rintro e wz ⟨lb, rfl, bb, hy, -⟩
            replace s := s.step bb
            clear bb lt c0 c1 c2 c3
            obtain ⟨lt, c0, c1, c2, c3⟩ := s.cells
            replace hy := Lib.hid (hy ⟨⟨by omega, by omega⟩, qm0.out⟩)
            by_cases e2 : l = lb
            · have e2t : (l == lb) = true := by simpa using e2
              have e2h := Lib.hid e2
              clear e2
              go_wp2_with fail
              go_ret
              refine hfin.out _ _ (fun a r hu => ?_) s.b
              refine (utc_same hS qm0.out.base hu ?_ hp.out (.inl ⟨rfl, rfl, by omega⟩) hx.out hy.out).2.1 e1h.out e2h.out
              rw [show l - 64801 = l - 64800 - 1 by omega]; exact ho.out
            · have e2t : (l == lb) = false := by simpa using e2
              have e2h := Lib.hid e2
              clear e2
              go_wp2_with fail
              go_ret
              refine hfin.out _ _ (fun a r hu => ?_) s.b
              refine (utc_same hS qm0.out.base hu ?_ hp.out (.inl ⟨rfl, rfl, by omega⟩) hx.out hy.out).2.2 e1h.out e2h.out
              rw [show l - 64801 = l - 64800 - 1 by omega]; exact ho.out
  · have mt := mayZB_no qm
    go_enter Try.func27, Try.ntmps27
    go_wp2_with fail
    have s : St w (w.alloc (zo bs A L.length c A' Y.length c' fr)) w.heap.size bs A c A' c' fr L Y := St.new_ hz
    generalize w.alloc (zo bs A L.length c A' Y.length c' fr) = w1 at s ⊢
    obtain ⟨lt, c0, c1, c2, c3⟩ := s.cells
    refine (rmayZone_any bs A c A' c' fr L Y _ _ s.z s.le).mono ?_
    rintro e wz ⟨rfl, bb⟩
    replace s := s.step bb
    clear bb lt c0 c1 c2 c3
    obtain ⟨lt, c0, c1, c2, c3⟩ := s.cells
    rw [mt]
    go_wp2_with fail
    go_ret
    exact ⟨0, rfl, s.b, ⟨fun h1 h2 => absurd h2 qm, fun _ => rfl⟩⟩
end Go.Proofs.Ytbnchbcdgffkaaa
