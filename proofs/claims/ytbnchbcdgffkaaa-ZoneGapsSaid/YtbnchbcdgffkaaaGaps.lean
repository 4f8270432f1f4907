/- voklaw3.ZoneGaps. -/
import Derived.Test.YtbnchbcdgffkaaaSt
namespace Go.Proofs.Ytbnchbcdgffkaaa
open Go.RowKit
set_option linter.unusedVariables false
set_option maxRecDepth 100000 in
set_option maxHeartbeats 4000000 in
theorem zoneGaps_true {bs : Int} {A A' : Option Addr} {c c' : Nat} {fr : Int} {L : List Sh} {Y : List Yr} {l : Int} {w : World} (hz : ZAt w w.heap.size A A' L Y) :
    Calls Try.prog 6 #[zv bs A L.length c A' Y.length c' fr, .int .i64 l] w fun e w' => e = .returned (.bool true) ∧ Below w.heap.size w w' := by
  by_cases qf : L.length ≤ 400 ∧ Y.length ≤ 400
  · have ft := decide_eq_true qf
    by_cases qm : MayZ bs L Y fr
    · have mt := mayZB_yes qm
      by_cases q1 : l < -60000000000
      · have q1t := decide_eq_true q1
        go_enter Try.func6, Try.ntmps6
        go_wp2_with fail
        have s := St.new_ (bs := bs) (c := c) (c' := c') (fr := fr) hz
        generalize w.alloc (zo bs A L.length c A' Y.length c' fr) = w1 at s ⊢
        obtain ⟨lt, c0, c1, c2, c3⟩ := s.cells
        refine (first_any _).mono ?_
        rintro e wz ⟨rfl, bb⟩
        replace s := s.step bb
        clear bb lt c0 c1 c2 c3
        obtain ⟨lt, c0, c1, c2, c3⟩ := s.cells
        go_wp2_with fail
        refine (few_any).mono ?_
        rintro e wz ⟨rfl, bb⟩
        replace s := s.step bb
        clear bb lt c0 c1 c2 c3
        obtain ⟨lt, c0, c1, c2, c3⟩ := s.cells
        rw [ft]
        go_wp2_with fail
        refine (mayZone_any bs A c A' c' fr L Y w.heap.size _ s.z.s s.z.y s.le s.z.l s.z.l').mono ?_
        rintro e wz ⟨rfl, bb⟩
        replace s := s.step bb
        clear bb lt c0 c1 c2 c3
        obtain ⟨lt, c0, c1, c2, c3⟩ := s.cells
        rw [mt]
        go_wp2_with fail
        refine (first_any _).mono ?_
        rintro e wz ⟨rfl, bb⟩
        replace s := s.step bb
        clear bb lt c0 c1 c2 c3
        obtain ⟨lt, c0, c1, c2, c3⟩ := s.cells
        go_wp2_with fail
        go_ret
        exact ⟨rfl, s.b⟩
      · have q1t := decide_eq_false q1
        by_cases q2 : 250000000000 < l
        · have q2t := decide_eq_true q2
          go_enter Try.func6, Try.ntmps6
          go_wp2_with fail
          have s := St.new_ (bs := bs) (c := c) (c' := c') (fr := fr) hz
          generalize w.alloc (zo bs A L.length c A' Y.length c' fr) = w1 at s ⊢
          obtain ⟨lt, c0, c1, c2, c3⟩ := s.cells
          refine (first_any _).mono ?_
          rintro e wz ⟨rfl, bb⟩
          replace s := s.step bb
          clear bb lt c0 c1 c2 c3
          obtain ⟨lt, c0, c1, c2, c3⟩ := s.cells
          go_wp2_with fail
          refine (few_any).mono ?_
          rintro e wz ⟨rfl, bb⟩
          replace s := s.step bb
          clear bb lt c0 c1 c2 c3
          obtain ⟨lt, c0, c1, c2, c3⟩ := s.cells
          rw [ft]
          go_wp2_with fail
          refine (mayZone_any bs A c A' c' fr L Y w.heap.size _ s.z.s s.z.y s.le s.z.l s.z.l').mono ?_
          rintro e wz ⟨rfl, bb⟩
          replace s := s.step bb
          clear bb lt c0 c1 c2 c3
          obtain ⟨lt, c0, c1, c2, c3⟩ := s.cells
          rw [mt]
          go_wp2_with fail
          refine (first_any _).mono ?_
          rintro e wz ⟨rfl, bb⟩
          replace s := s.step bb
          clear bb lt c0 c1 c2 c3
          obtain ⟨lt, c0, c1, c2, c3⟩ := s.cells
          go_wp2_with fail
          go_ret
          exact ⟨rfl, s.b⟩
        · have q2t := decide_eq_false q2
          go_enter Try.func6, Try.ntmps6
          go_wp2_with fail
          have s := St.new_ (bs := bs) (c := c) (c' := c') (fr := fr) hz
          generalize w.alloc (zo bs A L.length c A' Y.length c' fr) = w1 at s ⊢
          obtain ⟨lt, c0, c1, c2, c3⟩ := s.cells
          refine (first_any _).mono ?_
          rintro e wz ⟨rfl, bb⟩
          replace s := s.step bb
          clear bb lt c0 c1 c2 c3
          obtain ⟨lt, c0, c1, c2, c3⟩ := s.cells
          go_wp2_with fail
          refine (few_any).mono ?_
          rintro e wz ⟨rfl, bb⟩
          replace s := s.step bb
          clear bb lt c0 c1 c2 c3
          obtain ⟨lt, c0, c1, c2, c3⟩ := s.cells
          rw [ft]
          go_wp2_with fail
          refine (mayZone_any bs A c A' c' fr L Y w.heap.size _ s.z.s s.z.y s.le s.z.l s.z.l').mono ?_
          rintro e wz ⟨rfl, bb⟩
          replace s := s.step bb
          clear bb lt c0 c1 c2 c3
          obtain ⟨lt, c0, c1, c2, c3⟩ := s.cells
          rw [mt]
          go_wp2_with fail
          refine (utc_any s.z s.le).mono ?_
          rintro e wz ⟨v, rfl, bb, hv⟩
          replace s := s.step bb
          clear bb lt c0 c1 c2 c3
          obtain ⟨lt, c0, c1, c2, c3⟩ := s.cells
          have hS := qm.ok.sep
          obtain ⟨a, r, hu, e1⟩ := hv.yes ⟨by omega, by omega⟩ qm
          obtain ⟨v1, v2⟩ := utcOf_bd hS qm.base hu
          rw [← e1] at v1 v2
          replace e1 := Lib.hid e1
          clear hv
          go_wp2_with fail
          refine (local_any s.z s.le).mono ?_
          rintro e wz ⟨m, rfl, bb, hm, -⟩
          replace s := s.step bb
          clear bb lt c0 c1 c2 c3
          obtain ⟨lt, c0, c1, c2, c3⟩ := s.cells
          replace hm := hm ⟨⟨by omega, by omega⟩, qm⟩
          obtain ⟨m1, m2⟩ := hm.bd hS qm.base
          by_cases k : m = l
          · have kt : (m == l) = true := by simpa using k
            go_wp2_with fail
            refine (first_any _).mono ?_
            rintro e wz ⟨rfl, bb⟩
            replace s := s.step bb
            clear bb lt c0 c1 c2 c3
            obtain ⟨lt, c0, c1, c2, c3⟩ := s.cells
            go_wp2_with fail
            go_ret
            exact ⟨rfl, s.b⟩
          · have kt : (m == l) = false := by simpa using k
            replace hm := (congrArg (fun x => IsOff bs (IsShift L Y fr) x (m - x)) e1.out).mp hm
            obtain ⟨sh, rfl, hb, ho, g1, g2, g3, g4⟩ := gap_law hS qm.base hu hm k
            rw [← e1.out] at hb
            obtain ⟨⟨z1, z2⟩, z3, z4⟩ := (show MayT sh.at_ ∧ OffOk sh.off from ⟨shift_at qm.ok hb.1, hS.off _ hb.1⟩)
            obtain ⟨a1, a2⟩ := ho.bd hS qm.base
            have z5 := hu.aft.2.1
            have g2t : (m - l == sh.off - a) = true := by simpa using g2
            have hb := Lib.hid hb
            have ho := Lib.hid ho
            clear hm hu g2 k
            go_wp2_with fail
            refine (before_any s.z s.le).mono ?_
            rintro e wz ⟨r2, rfl, bb, hr, -⟩
            replace s := s.step bb
            clear bb lt c0 c1 c2 c3
            obtain ⟨lt, c0, c1, c2, c3⟩ := s.cells
            replace hr := (hr ⟨⟨by omega, by omega⟩, qm⟩).uniq hS hb.out
            subst hr
            simp only [shv]
            go_wp2_with fail
            have T := Two.new_ wz (sh.at_) (sh.off) wz.heap.size rfl
            replace s := s.alloc (.cells #[.int .i64 sh.at_, .int .i64 sh.off] 29)
            generalize wz.alloc (.cells #[.int .i64 sh.at_, .int .i64 sh.off] 29) = wy at s T ⊢
            clear lt c0 c1 c2 c3
            obtain ⟨lt, c0, c1, c2, c3⟩ := s.cells
            refine (zoffset_any s.z s.le).mono ?_
            rintro e wz ⟨o, rfl, bb, hr, -⟩
            replace T := T.below bb T.lt
            replace s := s.step bb
            clear bb lt c0 c1 c2 c3
            obtain ⟨lt, c0, c1, c2, c3⟩ := s.cells
            have hr := (hr ⟨⟨by omega, by omega⟩, qm⟩).uniq hS ho.out
            subst hr
            have d0 := T.c0
            have d1 := T.c1
            go_wp2_with fail
            refine (first_any _).mono ?_
            rintro e wz ⟨rfl, bb⟩
            replace T := T.below bb T.lt
            replace s := s.step bb
            clear bb d0 d1 lt c0 c1 c2 c3
            obtain ⟨lt, c0, c1, c2, c3⟩ := s.cells
            have d0 := T.c0
            have d1 := T.c1
            go_wp2_with fail
            go_ret
            exact ⟨rfl, s.b⟩
    · have mt := mayZB_no qm
      go_enter Try.func6, Try.ntmps6
      go_wp2_with fail
      have s := St.new_ (bs := bs) (c := c) (c' := c') (fr := fr) hz
      generalize w.alloc (zo bs A L.length c A' Y.length c' fr) = w1 at s ⊢
      obtain ⟨lt, c0, c1, c2, c3⟩ := s.cells
      refine (first_any _).mono ?_
      rintro e wz ⟨rfl, bb⟩
      replace s := s.step bb
      clear bb lt c0 c1 c2 c3
      obtain ⟨lt, c0, c1, c2, c3⟩ := s.cells
      go_wp2_with fail
      refine (few_any).mono ?_
      rintro e wz ⟨rfl, bb⟩
      replace s := s.step bb
      clear bb lt c0 c1 c2 c3
      obtain ⟨lt, c0, c1, c2, c3⟩ := s.cells
      rw [ft]
      go_wp2_with fail
      refine (mayZone_any bs A c A' c' fr L Y w.heap.size _ s.z.s s.z.y s.le s.z.l s.z.l').mono ?_
      rintro e wz ⟨rfl, bb⟩
      replace s := s.step bb
      clear bb lt c0 c1 c2 c3
      obtain ⟨lt, c0, c1, c2, c3⟩ := s.cells
      rw [mt]
      go_wp2_with fail
      refine (first_any _).mono ?_
      rintro e wz ⟨rfl, bb⟩
      replace s := s.step bb
      clear bb lt c0 c1 c2 c3
      obtain ⟨lt, c0, c1, c2, c3⟩ := s.cells
      go_wp2_with fail
      go_ret
      exact ⟨rfl, s.b⟩
  · have ft := decide_eq_false qf
    go_enter Try.func6, Try.ntmps6
    go_wp2_with fail
    have s := St.new_ (bs := bs) (c := c) (c' := c') (fr := fr) hz
    generalize w.alloc (zo bs A L.length c A' Y.length c' fr) = w1 at s ⊢
    obtain ⟨lt, c0, c1, c2, c3⟩ := s.cells
    refine (first_any _).mono ?_
    rintro e wz ⟨rfl, bb⟩
    replace s := s.step bb
    clear bb lt c0 c1 c2 c3
    obtain ⟨lt, c0, c1, c2, c3⟩ := s.cells
    go_wp2_with fail
    refine (few_any).mono ?_
    rintro e wz ⟨rfl, bb⟩
    replace s := s.step bb
    clear bb lt c0 c1 c2 c3
    obtain ⟨lt, c0, c1, c2, c3⟩ := s.cells
    rw [ft]
    go_wp2_with fail
    refine (first_any _).mono ?_
    rintro e wz ⟨rfl, bb⟩
    replace s := s.step bb
    clear bb lt c0 c1 c2 c3
    obtain ⟨lt, c0, c1, c2, c3⟩ := s.cells
    go_wp2_with fail
    go_ret
    exact ⟨rfl, s.b⟩
end Go.Proofs.Ytbnchbcdgffkaaa
