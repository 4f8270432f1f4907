/- voklaw3.ZoneFirst. -/
import Derived.Test.YtbnchbcdgffkaaaSt
namespace Go.Proofs.Ytbnchbcdgffkaaa
open Go.RowKit
set_option linter.unusedVariables false
set_option maxRecDepth 100000 in
set_option maxHeartbeats 4000000 in
theorem zoneFirst_true {bs : Int} {A A' : Option Addr} {c c' : Nat} {fr : Int} {L : List Sh} {Y : List Yr} {l back : Int} {w : World} (hz : ZAt w w.heap.size A A' L Y) :
    Calls Try.prog 9 #[zv bs A L.length c A' Y.length c' fr, .int .i64 l, .int .i64 back] w fun e w' => e = .returned (.bool true) ∧ Below w.heap.size w w' := by
  by_cases qf : L.length ≤ 400 ∧ Y.length ≤ 400
  · have ft := decide_eq_true qf
    by_cases qm : MayZ bs L Y fr
    · have mt := mayZB_yes qm
      by_cases q1 : l < -60000000000
      · have q1t := decide_eq_true q1
        go_enter Try.func9, Try.ntmps9
        go_wp2_with fail
        have s := St.new_ (bs := bs) (c := c) (c' := c') (fr := fr) hz
        generalize w.alloc (zo bs A L.length c A' Y.length c' fr) = w1 at s ⊢
        obtain ⟨lt, c0, c1, c2, c3⟩ := s.cells
        refine (first_any _).mono ?_
        rintro e wz ⟨rfl, bb⟩
        replace s := s.step bb
        clear bb lt c0 c1 c2 c3
        obtain ⟨lt, c0, c1, c2, c3⟩ := s.cells
        go_wp2_with fail
        refine (few_any).mono ?_
        rintro e wz ⟨rfl, bb⟩
        replace s := s.step bb
        clear bb lt c0 c1 c2 c3
        obtain ⟨lt, c0, c1, c2, c3⟩ := s.cells
        rw [ft]
        go_wp2_with fail
        refine (mayZone_any bs A c A' c' fr L Y w.heap.size _ s.z.s s.z.y s.le s.z.l s.z.l').mono ?_
        rintro e wz ⟨rfl, bb⟩
        replace s := s.step bb
        clear bb lt c0 c1 c2 c3
        obtain ⟨lt, c0, c1, c2, c3⟩ := s.cells
        rw [mt]
        go_wp2_with fail
        refine (first_any _).mono ?_
        rintro e wz ⟨rfl, bb⟩
        replace s := s.step bb
        clear bb lt c0 c1 c2 c3
        obtain ⟨lt, c0, c1, c2, c3⟩ := s.cells
        go_wp2_with fail
        go_ret
        exact ⟨rfl, s.b⟩
      · have q1t := decide_eq_false q1
        by_cases q2 : 250000000000 < l
        · have q2t := decide_eq_true q2
          go_enter Try.func9, Try.ntmps9
          go_wp2_with fail
          have s := St.new_ (bs := bs) (c := c) (c' := c') (fr := fr) hz
          generalize w.alloc (zo bs A L.length c A' Y.length c' fr) = w1 at s ⊢
          obtain ⟨lt, c0, c1, c2, c3⟩ := s.cells
          refine (first_any _).mono ?_
          rintro e wz ⟨rfl, bb⟩
          replace s := s.step bb
          clear bb lt c0 c1 c2 c3
          obtain ⟨lt, c0, c1, c2, c3⟩ := s.cells
          go_wp2_with fail
          refine (few_any).mono ?_
          rintro e wz ⟨rfl, bb⟩
          replace s := s.step bb
          clear bb lt c0 c1 c2 c3
          obtain ⟨lt, c0, c1, c2, c3⟩ := s.cells
          rw [ft]
          go_wp2_with fail
          refine (mayZone_any bs A c A' c' fr L Y w.heap.size _ s.z.s s.z.y s.le s.z.l s.z.l').mono ?_
          rintro e wz ⟨rfl, bb⟩
          replace s := s.step bb
          clear bb lt c0 c1 c2 c3
          obtain ⟨lt, c0, c1, c2, c3⟩ := s.cells
          rw [mt]
          go_wp2_with fail
          refine (first_any _).mono ?_
          rintro e wz ⟨rfl, bb⟩
          replace s := s.step bb
          clear bb lt c0 c1 c2 c3
          obtain ⟨lt, c0, c1, c2, c3⟩ := s.cells
          go_wp2_with fail
          go_ret
          exact ⟨rfl, s.b⟩
        · have q2t := decide_eq_false q2
          by_cases q3 : back < 1
          · have q3t := decide_eq_true q3
            go_enter Try.func9, Try.ntmps9
            go_wp2_with fail
            have s := St.new_ (bs := bs) (c := c) (c' := c') (fr := fr) hz
            generalize w.alloc (zo bs A L.length c A' Y.length c' fr) = w1 at s ⊢
            obtain ⟨lt, c0, c1, c2, c3⟩ := s.cells
            refine (first_any _).mono ?_
            rintro e wz ⟨rfl, bb⟩
            replace s := s.step bb
            clear bb lt c0 c1 c2 c3
            obtain ⟨lt, c0, c1, c2, c3⟩ := s.cells
            go_wp2_with fail
            refine (few_any).mono ?_
            rintro e wz ⟨rfl, bb⟩
            replace s := s.step bb
            clear bb lt c0 c1 c2 c3
            obtain ⟨lt, c0, c1, c2, c3⟩ := s.cells
            rw [ft]
            go_wp2_with fail
            refine (mayZone_any bs A c A' c' fr L Y w.heap.size _ s.z.s s.z.y s.le s.z.l s.z.l').mono ?_
            rintro e wz ⟨rfl, bb⟩
            replace s := s.step bb
            clear bb lt c0 c1 c2 c3
            obtain ⟨lt, c0, c1, c2, c3⟩ := s.cells
            rw [mt]
            go_wp2_with fail
            refine (first_any _).mono ?_
            rintro e wz ⟨rfl, bb⟩
            replace s := s.step bb
            clear bb lt c0 c1 c2 c3
            obtain ⟨lt, c0, c1, c2, c3⟩ := s.cells
            go_wp2_with fail
            go_ret
            exact ⟨rfl, s.b⟩
          · have q3t := decide_eq_false q3
            by_cases q4 : 129600 < back
            · have q4t := decide_eq_true q4
              go_enter Try.func9, Try.ntmps9
              go_wp2_with fail
              have s := St.new_ (bs := bs) (c := c) (c' := c') (fr := fr) hz
              generalize w.alloc (zo bs A L.length c A' Y.length c' fr) = w1 at s ⊢
              obtain ⟨lt, c0, c1, c2, c3⟩ := s.cells
              refine (first_any _).mono ?_
              rintro e wz ⟨rfl, bb⟩
              replace s := s.step bb
              clear bb lt c0 c1 c2 c3
              obtain ⟨lt, c0, c1, c2, c3⟩ := s.cells
              go_wp2_with fail
              refine (few_any).mono ?_
              rintro e wz ⟨rfl, bb⟩
              replace s := s.step bb
              clear bb lt c0 c1 c2 c3
              obtain ⟨lt, c0, c1, c2, c3⟩ := s.cells
              rw [ft]
              go_wp2_with fail
              refine (mayZone_any bs A c A' c' fr L Y w.heap.size _ s.z.s s.z.y s.le s.z.l s.z.l').mono ?_
              rintro e wz ⟨rfl, bb⟩
              replace s := s.step bb
              clear bb lt c0 c1 c2 c3
              obtain ⟨lt, c0, c1, c2, c3⟩ := s.cells
              rw [mt]
              go_wp2_with fail
              refine (first_any _).mono ?_
              rintro e wz ⟨rfl, bb⟩
              replace s := s.step bb
              clear bb lt c0 c1 c2 c3
              obtain ⟨lt, c0, c1, c2, c3⟩ := s.cells
              go_wp2_with fail
              go_ret
              exact ⟨rfl, s.b⟩
            · have q4t := decide_eq_false q4
              go_enter Try.func9, Try.ntmps9
              go_wp2_with fail
              have s := St.new_ (bs := bs) (c := c) (c' := c') (fr := fr) hz
              generalize w.alloc (zo bs A L.length c A' Y.length c' fr) = w1 at s ⊢
              obtain ⟨lt, c0, c1, c2, c3⟩ := s.cells
              refine (first_any _).mono ?_
              rintro e wz ⟨rfl, bb⟩
              replace s := s.step bb
              clear bb lt c0 c1 c2 c3
              obtain ⟨lt, c0, c1, c2, c3⟩ := s.cells
              go_wp2_with fail
              refine (few_any).mono ?_
              rintro e wz ⟨rfl, bb⟩
              replace s := s.step bb
              clear bb lt c0 c1 c2 c3
              obtain ⟨lt, c0, c1, c2, c3⟩ := s.cells
              rw [ft]
              go_wp2_with fail
              refine (mayZone_any bs A c A' c' fr L Y w.heap.size _ s.z.s s.z.y s.le s.z.l s.z.l').mono ?_
              rintro e wz ⟨rfl, bb⟩
              replace s := s.step bb
              clear bb lt c0 c1 c2 c3
              obtain ⟨lt, c0, c1, c2, c3⟩ := s.cells
              rw [mt]
              go_wp2_with fail
              refine (utc_any s.z s.le).mono ?_
              rintro e wz ⟨v, rfl, bb, hv⟩
              replace s := s.step bb
              clear bb lt c0 c1 c2 c3
              obtain ⟨lt, c0, c1, c2, c3⟩ := s.cells
              have hS := qm.ok.sep
              obtain ⟨a, r, hu, e1⟩ := hv.yes ⟨by omega, by omega⟩ qm
              obtain ⟨v1, v2⟩ := utcOf_bd hS qm.base hu
              rw [← e1] at v1 v2
              replace e1 := Lib.hid e1
              clear hv
              go_wp2_with fail
              refine (local_any s.z s.le).mono ?_
              rintro e wz ⟨m, rfl, bb, hm, -⟩
              replace s := s.step bb
              clear bb lt c0 c1 c2 c3
              obtain ⟨lt, c0, c1, c2, c3⟩ := s.cells
              replace hm := hm ⟨⟨by omega, by omega⟩, qm⟩
              by_cases k : m = l
              · subst k
                replace hm := (congrArg (fun x => IsOff bs (IsShift L Y fr) x (m - x)) e1.out).mp hm
                have hN : ∀ n, IsOff bs (IsShift L Y fr) (v - back) (n - (v - back)) → (n != m) = true := fun n hn => by
                  rw [bne_iff_ne]
                  rintro rfl
                  rw [e1.out] at hn
                  exact first_law hS qm.base hu hm (by omega) hn
                clear hu hm
                go_wp2_with fail
                refine (first_any _).mono ?_
                rintro e wz ⟨rfl, bb⟩
                replace s := s.step bb
                clear bb lt c0 c1 c2 c3
                obtain ⟨lt, c0, c1, c2, c3⟩ := s.cells
                go_wp2_with fail
                refine (local_any s.z s.le).mono ?_
                rintro e wz ⟨n, rfl, bb, hn, -⟩
                replace s := s.step bb
                clear bb lt c0 c1 c2 c3
                obtain ⟨lt, c0, c1, c2, c3⟩ := s.cells
                replace hn := hN n (hn ⟨⟨by omega, by omega⟩, qm⟩)
                clear hN
                go_wp2_with fail
                go_ret
                exact ⟨rfl, s.b⟩
              · have kt : (m != l) = true := by simpa using k
                clear hm
                go_wp2_with fail
                refine (first_any _).mono ?_
                rintro e wz ⟨rfl, bb⟩
                replace s := s.step bb
                clear bb lt c0 c1 c2 c3
                obtain ⟨lt, c0, c1, c2, c3⟩ := s.cells
                go_wp2_with fail
                go_ret
                exact ⟨rfl, s.b⟩
    · have mt := mayZB_no qm
      go_enter Try.func9, Try.ntmps9
      go_wp2_with fail
      have s := St.new_ (bs := bs) (c := c) (c' := c') (fr := fr) hz
      generalize w.alloc (zo bs A L.length c A' Y.length c' fr) = w1 at s ⊢
      obtain ⟨lt, c0, c1, c2, c3⟩ := s.cells
      refine (first_any _).mono ?_
      rintro e wz ⟨rfl, bb⟩
      replace s := s.step bb
      clear bb lt c0 c1 c2 c3
      obtain ⟨lt, c0, c1, c2, c3⟩ := s.cells
      go_wp2_with fail
      refine (few_any).mono ?_
      rintro e wz ⟨rfl, bb⟩
      replace s := s.step bb
      clear bb lt c0 c1 c2 c3
      obtain ⟨lt, c0, c1, c2, c3⟩ := s.cells
      rw [ft]
      go_wp2_with fail
      refine (mayZone_any bs A c A' c' fr L Y w.heap.size _ s.z.s s.z.y s.le s.z.l s.z.l').mono ?_
      rintro e wz ⟨rfl, bb⟩
      replace s := s.step bb
      clear bb lt c0 c1 c2 c3
      obtain ⟨lt, c0, c1, c2, c3⟩ := s.cells
      rw [mt]
      go_wp2_with fail
      refine (first_any _).mono ?_
      rintro e wz ⟨rfl, bb⟩
      replace s := s.step bb
      clear bb lt c0 c1 c2 c3
      obtain ⟨lt, c0, c1, c2, c3⟩ := s.cells
      go_wp2_with fail
      go_ret
      exact ⟨rfl, s.b⟩
  · have ft := decide_eq_false qf
    go_enter Try.func9, Try.ntmps9
    go_wp2_with fail
    have s := St.new_ (bs := bs) (c := c) (c' := c') (fr := fr) hz
    generalize w.alloc (zo bs A L.length c A' Y.length c' fr) = w1 at s ⊢
    obtain ⟨lt, c0, c1, c2, c3⟩ := s.cells
    refine (first_any _).mono ?_
    rintro e wz ⟨rfl, bb⟩
    replace s := s.step bb
    clear bb lt c0 c1 c2 c3
    obtain ⟨lt, c0, c1, c2, c3⟩ := s.cells
    go_wp2_with fail
    refine (few_any).mono ?_
    rintro e wz ⟨rfl, bb⟩
    replace s := s.step bb
    clear bb lt c0 c1 c2 c3
    obtain ⟨lt, c0, c1, c2, c3⟩ := s.cells
    rw [ft]
    go_wp2_with fail
    refine (first_any _).mono ?_
    rintro e wz ⟨rfl, bb⟩
    replace s := s.step bb
    clear bb lt c0 c1 c2 c3
    obtain ⟨lt, c0, c1, c2, c3⟩ := s.cells
    go_wp2_with fail
    go_ret
    exact ⟨rfl, s.b⟩
end Go.Proofs.Ytbnchbcdgffkaaa
