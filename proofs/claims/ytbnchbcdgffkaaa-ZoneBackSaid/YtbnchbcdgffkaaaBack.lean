/- voklaw3.ZoneBack. -/
import Derived.Test.YtbnchbcdgffkaaaSt
namespace Go.Proofs.Ytbnchbcdgffkaaa
open Go.RowKit
set_option linter.unusedVariables false
set_option maxRecDepth 100000 in
set_option maxHeartbeats 4000000 in
theorem zoneBack_true {bs : Int} {A A' : Option Addr} {c c' : Nat} {fr : Int} {L : List Sh} {Y : List Yr} {u : Int} {w : World} (hz : ZAt w w.heap.size A A' L Y) :
    Calls Try.prog 5 #[zv bs A L.length c A' Y.length c' fr, .int .i64 u] w fun e w' => e = .returned (.bool true) ∧ Below w.heap.size w w' := by
  by_cases qf : L.length ≤ 400 ∧ Y.length ≤ 400
  · have ft := decide_eq_true qf
    by_cases qm : MayZ bs L Y fr
    · have mt := mayZB_yes qm
      by_cases qt : MayT u
      · have tt := decide_eq_true qt
        by_cases q1 : u < -60000000000
        · have q1t := decide_eq_true q1
          go_enter Try.func5, Try.ntmps5
          go_wp2_with fail
          have s := St.new_ (bs := bs) (c := c) (c' := c') (fr := fr) hz
          generalize w.alloc (zo bs A L.length c A' Y.length c' fr) = w1 at s ⊢
          obtain ⟨lt, c0, c1, c2, c3⟩ := s.cells
          refine (first_any _).mono ?_
          rintro e wz ⟨rfl, bb⟩
          replace s := s.step bb
          clear bb lt c0 c1 c2 c3
          obtain ⟨lt, c0, c1, c2, c3⟩ := s.cells
          go_wp2_with fail
          refine (few_any).mono ?_
          rintro e wz ⟨rfl, bb⟩
          replace s := s.step bb
          clear bb lt c0 c1 c2 c3
          obtain ⟨lt, c0, c1, c2, c3⟩ := s.cells
          rw [ft]
          go_wp2_with fail
          refine (mayZone_any bs A c A' c' fr L Y w.heap.size _ s.z.s s.z.y s.le s.z.l s.z.l').mono ?_
          rintro e wz ⟨rfl, bb⟩
          replace s := s.step bb
          clear bb lt c0 c1 c2 c3
          obtain ⟨lt, c0, c1, c2, c3⟩ := s.cells
          rw [mt]
          go_wp2_with fail
          refine (may_any u _).mono ?_
          rintro e wz ⟨rfl, rfl⟩
          rw [tt]
          go_wp2_with fail
          refine (first_any _).mono ?_
          rintro e wz ⟨rfl, bb⟩
          replace s := s.step bb
          clear bb lt c0 c1 c2 c3
          obtain ⟨lt, c0, c1, c2, c3⟩ := s.cells
          go_wp2_with fail
          go_ret
          exact ⟨rfl, s.b⟩
        · have q1t := decide_eq_false q1
          by_cases q2 : 250000000000 < u
          · have q2t := decide_eq_true q2
            go_enter Try.func5, Try.ntmps5
            go_wp2_with fail
            have s := St.new_ (bs := bs) (c := c) (c' := c') (fr := fr) hz
            generalize w.alloc (zo bs A L.length c A' Y.length c' fr) = w1 at s ⊢
            obtain ⟨lt, c0, c1, c2, c3⟩ := s.cells
            refine (first_any _).mono ?_
            rintro e wz ⟨rfl, bb⟩
            replace s := s.step bb
            clear bb lt c0 c1 c2 c3
            obtain ⟨lt, c0, c1, c2, c3⟩ := s.cells
            go_wp2_with fail
            refine (few_any).mono ?_
            rintro e wz ⟨rfl, bb⟩
            replace s := s.step bb
            clear bb lt c0 c1 c2 c3
            obtain ⟨lt, c0, c1, c2, c3⟩ := s.cells
            rw [ft]
            go_wp2_with fail
            refine (mayZone_any bs A c A' c' fr L Y w.heap.size _ s.z.s s.z.y s.le s.z.l s.z.l').mono ?_
            rintro e wz ⟨rfl, bb⟩
            replace s := s.step bb
            clear bb lt c0 c1 c2 c3
            obtain ⟨lt, c0, c1, c2, c3⟩ := s.cells
            rw [mt]
            go_wp2_with fail
            refine (may_any u _).mono ?_
            rintro e wz ⟨rfl, rfl⟩
            rw [tt]
            go_wp2_with fail
            refine (first_any _).mono ?_
            rintro e wz ⟨rfl, bb⟩
            replace s := s.step bb
            clear bb lt c0 c1 c2 c3
            obtain ⟨lt, c0, c1, c2, c3⟩ := s.cells
            go_wp2_with fail
            go_ret
            exact ⟨rfl, s.b⟩
          · have q2t := decide_eq_false q2
            go_enter Try.func5, Try.ntmps5
            go_wp2_with fail
            have s := St.new_ (bs := bs) (c := c) (c' := c') (fr := fr) hz
            generalize w.alloc (zo bs A L.length c A' Y.length c' fr) = w1 at s ⊢
            obtain ⟨lt, c0, c1, c2, c3⟩ := s.cells
            refine (first_any _).mono ?_
            rintro e wz ⟨rfl, bb⟩
            replace s := s.step bb
            clear bb lt c0 c1 c2 c3
            obtain ⟨lt, c0, c1, c2, c3⟩ := s.cells
            go_wp2_with fail
            refine (few_any).mono ?_
            rintro e wz ⟨rfl, bb⟩
            replace s := s.step bb
            clear bb lt c0 c1 c2 c3
            obtain ⟨lt, c0, c1, c2, c3⟩ := s.cells
            rw [ft]
            go_wp2_with fail
            refine (mayZone_any bs A c A' c' fr L Y w.heap.size _ s.z.s s.z.y s.le s.z.l s.z.l').mono ?_
            rintro e wz ⟨rfl, bb⟩
            replace s := s.step bb
            clear bb lt c0 c1 c2 c3
            obtain ⟨lt, c0, c1, c2, c3⟩ := s.cells
            rw [mt]
            go_wp2_with fail
            refine (may_any u _).mono ?_
            rintro e wz ⟨rfl, rfl⟩
            rw [tt]
            go_wp2_with fail
            refine (local_any s.z s.le).mono ?_
            rintro e wz ⟨l, rfl, bb, hl, -⟩
            replace s := s.step bb
            clear bb lt c0 c1 c2 c3
            obtain ⟨lt, c0, c1, c2, c3⟩ := s.cells
            have hS := qm.ok.sep
            replace hl := hl ⟨qt, qm⟩
            obtain ⟨l1, l2⟩ := hl.bd hS qm.base
            have hlh := Lib.hid hl
            clear hl
            go_wp2_with fail
            refine (utc_any s.z s.le).mono ?_
            rintro e wz ⟨v, rfl, bb, hv⟩
            replace s := s.step bb
            clear bb lt c0 c1 c2 c3
            obtain ⟨lt, c0, c1, c2, c3⟩ := s.cells
            obtain ⟨a, r, hu, e1⟩ := hv.yes ⟨by omega, by omega⟩ qm
            obtain ⟨v1, v2⟩ := utcOf_bd hS qm.base hu
            obtain ⟨k1, k2, k3⟩ := back_law hS qm.base hlh.out hu
            rw [← e1] at k1 k2 k3 v1 v2
            have k3 := Lib.hid k3
            clear hv e1
            go_wp2_with fail
            refine (first_any _).mono ?_
            rintro e wz ⟨rfl, bb⟩
            replace s := s.step bb
            clear bb lt c0 c1 c2 c3
            obtain ⟨lt, c0, c1, c2, c3⟩ := s.cells
            go_wp2_with fail
            refine (local_any s.z s.le).mono ?_
            rintro e wz ⟨m, rfl, bb, hm, -⟩
            replace s := s.step bb
            clear bb lt c0 c1 c2 c3
            obtain ⟨lt, c0, c1, c2, c3⟩ := s.cells
            obtain rfl := IsOff.same hS (hm ⟨⟨by omega, by omega⟩, qm⟩) k3.out
            clear hm
            go_wp2_with fail
            go_ret
            exact ⟨rfl, s.b⟩
      · have tt := decide_eq_false qt
        go_enter Try.func5, Try.ntmps5
        go_wp2_with fail
        have s := St.new_ (bs := bs) (c := c) (c' := c') (fr := fr) hz
        generalize w.alloc (zo bs A L.length c A' Y.length c' fr) = w1 at s ⊢
        obtain ⟨lt, c0, c1, c2, c3⟩ := s.cells
        refine (first_any _).mono ?_
        rintro e wz ⟨rfl, bb⟩
        replace s := s.step bb
        clear bb lt c0 c1 c2 c3
        obtain ⟨lt, c0, c1, c2, c3⟩ := s.cells
        go_wp2_with fail
        refine (few_any).mono ?_
        rintro e wz ⟨rfl, bb⟩
        replace s := s.step bb
        clear bb lt c0 c1 c2 c3
        obtain ⟨lt, c0, c1, c2, c3⟩ := s.cells
        rw [ft]
        go_wp2_with fail
        refine (mayZone_any bs A c A' c' fr L Y w.heap.size _ s.z.s s.z.y s.le s.z.l s.z.l').mono ?_
        rintro e wz ⟨rfl, bb⟩
        replace s := s.step bb
        clear bb lt c0 c1 c2 c3
        obtain ⟨lt, c0, c1, c2, c3⟩ := s.cells
        rw [mt]
        go_wp2_with fail
        refine (may_any u _).mono ?_
        rintro e wz ⟨rfl, rfl⟩
        rw [tt]
        go_wp2_with fail
        refine (first_any _).mono ?_
        rintro e wz ⟨rfl, bb⟩
        replace s := s.step bb
        clear bb lt c0 c1 c2 c3
        obtain ⟨lt, c0, c1, c2, c3⟩ := s.cells
        go_wp2_with fail
        go_ret
        exact ⟨rfl, s.b⟩
    · have mt := mayZB_no qm
      go_enter Try.func5, Try.ntmps5
      go_wp2_with fail
      have s := St.new_ (bs := bs) (c := c) (c' := c') (fr := fr) hz
      generalize w.alloc (zo bs A L.length c A' Y.length c' fr) = w1 at s ⊢
      obtain ⟨lt, c0, c1, c2, c3⟩ := s.cells
      refine (first_any _).mono ?_
      rintro e wz ⟨rfl, bb⟩
      replace s := s.step bb
      clear bb lt c0 c1 c2 c3
      obtain ⟨lt, c0, c1, c2, c3⟩ := s.cells
      go_wp2_with fail
      refine (few_any).mono ?_
      rintro e wz ⟨rfl, bb⟩
      replace s := s.step bb
      clear bb lt c0 c1 c2 c3
      obtain ⟨lt, c0, c1, c2, c3⟩ := s.cells
      rw [ft]
      go_wp2_with fail
      refine (mayZone_any bs A c A' c' fr L Y w.heap.size _ s.z.s s.z.y s.le s.z.l s.z.l').mono ?_
      rintro e wz ⟨rfl, bb⟩
      replace s := s.step bb
      clear bb lt c0 c1 c2 c3
      obtain ⟨lt, c0, c1, c2, c3⟩ := s.cells
      rw [mt]
      go_wp2_with fail
      refine (first_any _).mono ?_
      rintro e wz ⟨rfl, bb⟩
      replace s := s.step bb
      clear bb lt c0 c1 c2 c3
      obtain ⟨lt, c0, c1, c2, c3⟩ := s.cells
      go_wp2_with fail
      go_ret
      exact ⟨rfl, s.b⟩
  · have ft := decide_eq_false qf
    go_enter Try.func5, Try.ntmps5
    go_wp2_with fail
    have s := St.new_ (bs := bs) (c := c) (c' := c') (fr := fr) hz
    generalize w.alloc (zo bs A L.length c A' Y.length c' fr) = w1 at s ⊢
    obtain ⟨lt, c0, c1, c2, c3⟩ := s.cells
    refine (first_any _).mono ?_
    rintro e wz ⟨rfl, bb⟩
    replace s := s.step bb
    clear bb lt c0 c1 c2 c3
    obtain ⟨lt, c0, c1, c2, c3⟩ := s.cells
    go_wp2_with fail
    refine (few_any).mono ?_
    rintro e wz ⟨rfl, bb⟩
    replace s := s.step bb
    clear bb lt c0 c1 c2 c3
    obtain ⟨lt, c0, c1, c2, c3⟩ := s.cells
    rw [ft]
    go_wp2_with fail
    refine (first_any _).mono ?_
    rintro e wz ⟨rfl, bb⟩
    replace s := s.step bb
    clear bb lt c0 c1 c2 c3
    obtain ⟨lt, c0, c1, c2, c3⟩ := s.cells
    go_wp2_with fail
    go_ret
    exact ⟨rfl, s.b⟩
end Go.Proofs.Ytbnchbcdgffkaaa
