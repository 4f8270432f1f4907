/- voklaw3.ZoneMore. -/
import Derived.Test.YtbnchbcdgffkaaaSt
import Derived.Deep.RegionHeld3
import Derived.Deep.DrawnRows
namespace Go.Proofs.Ytbnchbcdgffkaaa
open Go.RowKit
set_option linter.unusedVariables false
theorem Two.both {w : World} {p : Nat} {a b : Int} (h : Two w p a b) : w.cell? ⟨p, 0, none⟩ = some (.int .i64 a) ∧ w.cell? ⟨p, 1, none⟩ = some (.int .i64 b) := ⟨h.c0, h.c1⟩
theorem Two.drew {w : World} {p : Nat} {a b : Int} (h : Two w p a b) : Two w.drew p a b := ⟨h.blk⟩
theorem bef_ex {L : List Sh} {fr u : Int} (h : MayS L) : ∃ r, IsBef (IsShift L [] fr) u r := by
  have e1 : ∀ {t : Sh}, IsShift L [] fr t → t ∈ L := fun h => by
    rcases h with h | ⟨_, _, _, _, h, _⟩
    · exact h
    · cases h
  have hb := last_bef (u := u) (acc_up (Y := []) (fr := 0) (Ok.mk h (.inl ⟨rfl, rfl⟩)) 0 0)
  simp only [acc] at hb
  refine ⟨lastS u L, ?_⟩
  cases hr : lastS u L with
  | none => rw [hr] at hb; exact fun t ht => hb t (e1 ht)
  | some x => rw [hr] at hb; exact ⟨.inl hb.1, hb.2.1, fun t ht hu => hb.2.2 t (e1 ht) hu⟩
set_option maxRecDepth 100000 in
set_option maxHeartbeats 4000000 in
theorem zoneMore_true {bs : Int} {A A' : Option Addr} {c c' : Nat} {fr : Int} {L : List Sh} {Y : List Yr} {at_ off u : Int} {w : World} (hz : ZAt w w.heap.size A A' L Y) :
    Calls Try.prog 10 #[zv bs A L.length c A' Y.length c' fr, .int .i64 at_, .int .i64 off, .int .i64 u] w fun e w' => e = .returned (.bool true) ∧ Below w.heap.size w w' := by
  by_cases qf : L.length ≤ 400 ∧ Y.length ≤ 400
  · have ft := decide_eq_true qf
    by_cases y0 : 0 < Y.length
    · have y0t : decide (0 < (Y.length : Int)) = true := decide_eq_true (by omega)
      have y0x := Lib.hid y0
      go_enter Try.func10, Try.ntmps10
      go_wp2_with fail
      have s : St w (w.alloc (zo bs A L.length c A' Y.length c' fr)) w.heap.size bs A c A' c' fr L Y := St.new_ hz
      generalize w.alloc (zo bs A L.length c A' Y.length c' fr) = w1 at s ⊢
      obtain ⟨lt, c0, c1, c2, c3⟩ := s.cells
      refine (first_any _).mono ?_
      rintro e wz ⟨rfl, bb⟩
      replace s := s.step bb
      clear bb lt c0 c1 c2 c3
      obtain ⟨lt, c0, c1, c2, c3⟩ := s.cells
      go_wp2_with fail
      refine (few_any).mono ?_
      rintro e wz ⟨rfl, bb⟩
      replace s := s.step bb
      clear bb lt c0 c1 c2 c3
      obtain ⟨lt, c0, c1, c2, c3⟩ := s.cells
      rw [ft]
      go_wp2_with fail
      refine (first_any _).mono ?_
      rintro e wz ⟨rfl, bb⟩
      replace s := s.step bb
      clear bb lt c0 c1 c2 c3
      obtain ⟨lt, c0, c1, c2, c3⟩ := s.cells
      go_wp2_with fail
      go_ret
      exact ⟨rfl, s.b⟩
    · obtain rfl : Y = [] := List.length_eq_zero_iff.mp (by omega)
      clear y0
      replace ft : decide (L.length ≤ 400 ∧ 0 ≤ 400) = true := ft
      by_cases qm : MayZ bs L [] fr
      · have mt := mayZB_yes qm
        by_cases qt : MayT u
        · have tt := decide_eq_true qt
          go_enter Try.func10, Try.ntmps10
          go_wp2_with fail
          have s : St w (w.alloc (zo bs A L.length c A' 0 c' fr)) w.heap.size bs A c A' c' fr L [] := St.new_ hz
          generalize w.alloc (zo bs A L.length c A' 0 c' fr) = w1 at s ⊢
          obtain ⟨lt, c0, c1, c2, c3⟩ := s.cells
          refine (first_any _).mono ?_
          rintro e wz ⟨rfl, bb⟩
          replace s := s.step bb
          clear bb lt c0 c1 c2 c3
          obtain ⟨lt, c0, c1, c2, c3⟩ := s.cells
          go_wp2_with fail
          refine (few_any).mono ?_
          rintro e wz ⟨rfl, bb⟩
          replace s := s.step bb
          clear bb lt c0 c1 c2 c3
          obtain ⟨lt, c0, c1, c2, c3⟩ := s.cells
          rw [ft]
          go_wp2_with fail
          refine (mayZone_any bs A c A' c' fr L [] w.heap.size _ s.z.s s.z.y s.le s.z.l s.z.l').mono ?_
          rintro e wz ⟨rfl, bb⟩
          replace s := s.step bb
          clear bb lt c0 c1 c2 c3
          obtain ⟨lt, c0, c1, c2, c3⟩ := s.cells
          rw [mt]
          go_wp2_with fail
          refine (may_any u _).mono ?_
          rintro e wz ⟨rfl, rfl⟩
          rw [tt]
          have hS := qm.ok.sep
          have qm0 := Lib.hid qm
          have qt0 := Lib.hid qt
          obtain ⟨i0, hi, hz0, hz1, hz2⟩ := info_parts sh_row
          have w0le := s.le
          have hown := World.ownsRow_made (wz.alloc (zo bs A L.length c A' 0 c' fr)) (base := wz.heap.size + 1) (e := 29) (size := 2) #[] 0 (by simp) (by simp [maxLen]) rfl
          rw [show (wz.alloc (zo bs A L.length c A' 0 c' fr)).heap.size = wz.heap.size + 1 by simp] at hown
          have b3 : Below wz.heap.size wz ((wz.alloc (zo bs A L.length c A' 0 c' fr)).alloc (.cells #[] 29)) := ((Below.refl _ _).alloc (Nat.le_refl _) _).alloc (by simp) _
          have k3 : Below (wz.heap.size + 1) (wz.alloc (zo bs A L.length c A' 0 c' fr)) ((wz.alloc (zo bs A L.length c A' 0 c' fr)).alloc (.cells #[] 29)) := (Below.refl _ _).alloc (by simp) _
          have hrd := (s.z.s.below (b3.mono w0le)).reads
          have hblk : (wz.alloc (zo bs A L.length c A' 0 c' fr)).heap[wz.heap.size]? = some (zo bs A L.length c A' 0 c' fr) := by show (wz.heap.push _)[wz.heap.size]? = _; simp
          go_wp2_with (at_builtin; first
            | go_loud (
                refine wpList_append_any _ rfl (.tmp 36) (.tmp 38) _ rfl (wz.heap.size + 1) 29 i0 _ 2 16 Try.underlying22 hi hz0 hz1 hz2 rfl (by omega) _ 0 _ rfl hown _ A L.length c (flat L) rfl hrd (flat_one L) (by simp only [maxLen]; omega) (by omega) (by simp) ?_
                intro v4 w4 o4 g4 at4
                have n4 : ∀ k, Value.ownBlock (.slice (some ⟨wz.heap.size + 1, 0, none⟩) 0 0) = some k → wz.heap.size + 1 ≤ k := fun k hk => (World.ownsRow.lt hown k hk).1
                have b4 := b3.grown g4 b3.size (fun k hk => Nat.le_of_succ_le (n4 k hk))
                have k4 := k3.grown g4 (by simp) n4
                have ho4 : OwnS w4 (wz.heap.size + 1) v4 L := by
                  unfold OwnS
                  rw [Nat.zero_add, List.nil_append] at o4
                  exact o4
                obtain ⟨A4, c4, rfl⟩ := ho4.form
                have O5 := ho4.alloc (.cells #[.int .i64 at_, .int .i64 off] 29)
                have hR := one_row w4 ⟨at_, off⟩
                have b5 := b4.alloc b4.size (.cells #[.int .i64 at_, .int .i64 off] 29)
                have k5 := k4.alloc (by have := k4.size; simp at this; omega) (.cells #[.int .i64 at_, .int .i64 off] 29)
                have l4 := k4.size
                rw [show (wz.alloc (zo bs A L.length c A' 0 c' fr)).heap.size = wz.heap.size + 1 by simp] at l4
                unfold OwnS at O5
                clear hown o4 g4 at4 b4 k4 b3 k3 n4 hrd ho4
              )
            | (
                go_loud (refine wpList_append_any _ rfl (.tmp 39) (.tmp 43) _ rfl (wz.heap.size + 1) 29 i0 _ 2 16 Try.underlying22 hi hz0 hz1 hz2 rfl (by omega) _ L.length _ rfl O5 _ _ 1 1 (flat [⟨at_, off⟩]) rfl hR (flat_one _) (by simp only [maxLen]; omega) (by omega) (by simp; omega) ?_)
                intro v5 w5 o5 g5 at5
                obtain ⟨M, hM⟩ : ∃ M, M = L ++ [(⟨at_, off⟩ : Sh)] := ⟨_, rfl⟩
                have ho5 : OwnS w5 (wz.heap.size + 1) v5 M := by rw [hM]; exact ownS_more (M := [⟨at_, off⟩]) o5
                have n5 := fun k hk => (World.ownsRow.lt O5 k hk).1
                have b6 := b5.grown g5 b5.size (fun k hk => Nat.le_of_succ_le (n5 k hk))
                have k6 := k5.grown g5 (by simp; omega) n5
                replace hblk := (k6.block wz.heap.size (by omega)).trans hblk
                obtain ⟨A5, c5, rfl⟩ := ho5.form
                have fz : w5.frozen? ⟨wz.heap.size, 1, none⟩ = false := by simp [World.frozen?, hblk]
                have cz : w5.cell? ⟨wz.heap.size, 1, none⟩ = some (.slice A L.length c) := by simp [World.cell?, hblk]
                have hlM : M.length = L.length + 1 := by rw [hM]; simp
                have ho6 := ho5.set (q := wz.heap.size) (i := 1) (by omega) (.slice A5 M.length c5)
                have b7 := b6.setCell (p := ⟨wz.heap.size, 1, none⟩) (Nat.le_refl _) (.slice A5 M.length c5)
                have x7 : Boxed (w5.setCell ⟨wz.heap.size, 1, none⟩ (.slice A5 M.length c5)) wz.heap.size bs A5 M.length c5 A' 0 c' fr := by
                  have hlt := (Array.getElem?_eq_some_iff.1 hblk).1
                  refine ⟨by simpa [World.setCell] using hlt, ?_, ?_, ?_, ?_⟩ <;> simp [World.cell?, World.setCell, Array.getElem?_modify, hblk]
                obtain ⟨-, x0, x1, x2, x3⟩ := id x7
                have hlM0 := Lib.hid hlM
                have hM0 := Lib.hid hM
                clear O5 o5 g5 at5 hR b5 k5 n5 b6 k6 hblk ho5 hi hz0 hz1 hz2 hM hlM l4
              ))
          have s2 : St (w5.setCell ⟨wz.heap.size, 1, none⟩ (.slice A5 M.length c5)) (w5.setCell ⟨wz.heap.size, 1, none⟩ (.slice A5 M.length c5)) wz.heap.size bs A5 c5 A' c' fr M [] := ⟨Below.refl _ _, ⟨ho6.at_, ((s.step b7).z.mono (s.step b7).le).y, by have := hlM0.out; simp only [maxLen]; omega, by simp⟩, x7⟩
          replace s := s.step b7
          obtain ⟨py, hpy⟩ : ∃ py, py = wz.heap.size := ⟨_, rfl⟩
          rw [← hpy] at s s2 ⊢
          clear hpy x0 x1 x2 x3 x7 b7 ho6 fz cz lt c0 c1 c2 c3 w0le
          generalize w5.setCell ⟨py, 1, none⟩ (.slice A5 M.length c5) = w6 at s s2 ⊢
          obtain ⟨lt, c0, c1, c2, c3⟩ := s.cells
          obtain ⟨lt2, g0, g1, g2, g3⟩ := s2.cells
          have w6le := s.le
          by_cases qy : MayZ bs M [] fr
          · have mt2 := mayZB_yes qy
            have hL : ∀ r q, IsBef (IsShift L [] fr) u r → IsBef (IsShift M [] fr) u q → (at_ ≤ u → q = some ⟨at_, off⟩) ∧ (u < at_ → q = r) := by
              intro r q h1 h2
              have h3 := qy.sh
              have h4 := hM0.out
              subst h4
              exact more_law h3 h1 h2
            have hL := Lib.hid hL
            have qy0 := Lib.hid qy
            have hS2 := qy.ok.sep
            by_cases hu : u < at_
            · have ht := decide_eq_true hu
              refine (mayZone_any bs A5 c5 A' c' fr M [] _ _ s2.z.s s2.z.y s2.le s2.z.l s2.z.l').mono ?_
              rintro e wz ⟨rfl, bb⟩
              replace s := s.step bb
              replace s2 := s2.step bb
              clear bb lt c0 c1 c2 c3 lt2 g0 g1 g2 g3
              obtain ⟨lt2, g0, g1, g2, g3⟩ := s2.cells
              obtain ⟨lt, c0, c1, c2, c3⟩ := s.cells
              rw [mt2]
              go_wp2_with fail
              refine (zoffset_any s.z s.le).mono ?_
              rintro e wz ⟨o, rfl, bb, ho, -⟩
              replace s := s.step bb
              replace s2 := s2.step bb
              clear bb lt c0 c1 c2 c3 lt2 g0 g1 g2 g3
              obtain ⟨lt2, g0, g1, g2, g3⟩ := s2.cells
              obtain ⟨lt, c0, c1, c2, c3⟩ := s.cells
              obtain ⟨r, hr, ho⟩ := ho ⟨qt0.out, qm0.out⟩
              have hr := Lib.hid hr
              have ho := Lib.hid ho
              go_wp2_with fail
              refine (before_any s2.z s2.le).mono ?_
              rintro e wz ⟨q, rfl, bb, hq, -⟩
              replace s := s.step bb
              replace s2 := s2.step bb
              clear bb lt c0 c1 c2 c3 lt2 g0 g1 g2 g3
              obtain ⟨lt2, g0, g1, g2, g3⟩ := s2.cells
              obtain ⟨lt, c0, c1, c2, c3⟩ := s.cells
              replace hq := (hL.out r q hr.out (hq ⟨qt0.out, qy0.out⟩)).2 hu
              subst hq
              rw [shv_eq]
              go_wp2_with fail
              obtain ⟨pT, hpT⟩ : ∃ pT, pT = wz.heap.size := ⟨_, rfl⟩
              have T := Two.new_ wz ((ra q)) ((ro q)) wz.heap.size rfl
              replace s2 := s2.alloc (.cells #[.int .i64 (ra q), .int .i64 (ro q)] 29)
              replace s := s.alloc (.cells #[.int .i64 (ra q), .int .i64 (ro q)] 29)
              rw [← hpT] at T ⊢
              clear hpT lt2 g0 g1 g2 g3
              generalize wz.alloc (.cells #[.int .i64 (ra q), .int .i64 (ro q)] 29) = wy at s s2 T ⊢
              clear lt c0 c1 c2 c3
              obtain ⟨lt, c0, c1, c2, c3⟩ := s.cells
              obtain ⟨lt2, g0, g1, g2, g3⟩ := s2.cells
              obtain ⟨dT0, dT1⟩ := T.both
              refine (first_any _).mono ?_
              rintro e wz ⟨rfl, bb⟩
              replace T := T.below bb T.lt
              replace s := s.step bb
              replace s2 := s2.step bb
              clear bb dT0 dT1 lt c0 c1 c2 c3 lt2 g0 g1 g2 g3
              obtain ⟨lt2, g0, g1, g2, g3⟩ := s2.cells
              obtain ⟨lt, c0, c1, c2, c3⟩ := s.cells
              obtain ⟨dT0, dT1⟩ := T.both
              go_wp2_with fail
              refine (zoffset_any s2.z s2.le).mono ?_
              rintro e wz ⟨o2, rfl, bb, h2, -⟩
              replace T := T.below bb T.lt
              replace s := s.step bb
              replace s2 := s2.step bb
              clear bb dT0 dT1 lt c0 c1 c2 c3 lt2 g0 g1 g2 g3
              obtain ⟨lt2, g0, g1, g2, g3⟩ := s2.cells
              obtain ⟨lt, c0, c1, c2, c3⟩ := s.cells
              obtain ⟨q2, hq2, h2⟩ := h2 ⟨qt0.out, qy0.out⟩
              replace hq2 := (hL.out q q2 hr.out hq2).2 hu
              subst hq2
              have h3 := ho.out.trans h2.symm
              clear h2
              subst h3
              obtain ⟨dT0, dT1⟩ := T.both
              go_wp2_with fail
              have hsm : sameB bs L [] fr bs M [] fr = false := decide_eq_false fun h => by have h1 := congrArg List.length h.2.2.1; have h2 := hlM0.out; omega
              refine (same_any (s.z.mono w6le) s2.z s2.le).mono ?_
              rintro e wz ⟨rfl, bb⟩
              replace T := T.below bb T.lt
              replace s := s.step bb
              replace s2 := s2.step bb
              clear bb dT0 dT1 lt c0 c1 c2 c3 lt2 g0 g1 g2 g3
              obtain ⟨lt2, g0, g1, g2, g3⟩ := s2.cells
              obtain ⟨lt, c0, c1, c2, c3⟩ := s.cells
              rw [hsm]
              go_wp2_with fail
              go_ret
              exact ⟨rfl, s.b⟩
            · have ht := decide_eq_false hu
              refine (mayZone_any bs A5 c5 A' c' fr M [] _ _ s2.z.s s2.z.y s2.le s2.z.l s2.z.l').mono ?_
              rintro e wz ⟨rfl, bb⟩
              replace s := s.step bb
              replace s2 := s2.step bb
              clear bb lt c0 c1 c2 c3 lt2 g0 g1 g2 g3
              obtain ⟨lt2, g0, g1, g2, g3⟩ := s2.cells
              obtain ⟨lt, c0, c1, c2, c3⟩ := s.cells
              rw [mt2]
              go_wp2_with fail
              refine (before_any s2.z s2.le).mono ?_
              rintro e wz ⟨q, rfl, bb, hq, -⟩
              replace s := s.step bb
              replace s2 := s2.step bb
              clear bb lt c0 c1 c2 c3 lt2 g0 g1 g2 g3
              obtain ⟨lt2, g0, g1, g2, g3⟩ := s2.cells
              obtain ⟨lt, c0, c1, c2, c3⟩ := s.cells
              replace hq := hq ⟨qt0.out, qy0.out⟩
              obtain ⟨r, hr⟩ : ∃ r, IsBef (IsShift L [] fr) u r := bef_ex qm0.out.sh
              obtain rfl := (hL.out r q hr hq).1 (by omega)
              have hr := Lib.hid hr
              replace hq := Lib.hid hq
              simp only [shv]
              go_wp2_with fail
              obtain ⟨pT, hpT⟩ : ∃ pT, pT = wz.heap.size := ⟨_, rfl⟩
              have T := Two.new_ wz (at_) (off) wz.heap.size rfl
              replace s2 := s2.alloc (.cells #[.int .i64 at_, .int .i64 off] 29)
              replace s := s.alloc (.cells #[.int .i64 at_, .int .i64 off] 29)
              rw [← hpT] at T ⊢
              clear hpT lt2 g0 g1 g2 g3
              generalize wz.alloc (.cells #[.int .i64 at_, .int .i64 off] 29) = wy at s s2 T ⊢
              clear lt c0 c1 c2 c3
              obtain ⟨lt, c0, c1, c2, c3⟩ := s.cells
              obtain ⟨lt2, g0, g1, g2, g3⟩ := s2.cells
              obtain ⟨dT0, dT1⟩ := T.both
              refine (first_any _).mono ?_
              rintro e wz ⟨rfl, bb⟩
              replace T := T.below bb T.lt
              replace s := s.step bb
              replace s2 := s2.step bb
              clear bb dT0 dT1 lt c0 c1 c2 c3 lt2 g0 g1 g2 g3
              obtain ⟨lt2, g0, g1, g2, g3⟩ := s2.cells
              obtain ⟨lt, c0, c1, c2, c3⟩ := s.cells
              obtain ⟨dT0, dT1⟩ := T.both
              go_wp2_with fail
              refine (zoffset_any s2.z s2.le).mono ?_
              rintro e wz ⟨o2, rfl, bb, h2, -⟩
              replace T := T.below bb T.lt
              replace s := s.step bb
              replace s2 := s2.step bb
              clear bb dT0 dT1 lt c0 c1 c2 c3 lt2 g0 g1 g2 g3
              obtain ⟨lt2, g0, g1, g2, g3⟩ := s2.cells
              obtain ⟨lt, c0, c1, c2, c3⟩ := s.cells
              replace h2 := ((h2 ⟨qt0.out, qy0.out⟩).uniq hS2 ⟨_, hq.out, rfl⟩).symm
              simp only [offOf] at h2
              subst h2
              obtain ⟨dT0, dT1⟩ := T.both
              go_wp2_with fail
              have hsm : sameB bs L [] fr bs M [] fr = false := decide_eq_false fun h => by have h1 := congrArg List.length h.2.2.1; have h2 := hlM0.out; omega
              refine (same_any (s.z.mono w6le) s2.z s2.le).mono ?_
              rintro e wz ⟨rfl, bb⟩
              replace T := T.below bb T.lt
              replace s := s.step bb
              replace s2 := s2.step bb
              clear bb dT0 dT1 lt c0 c1 c2 c3 lt2 g0 g1 g2 g3
              obtain ⟨lt2, g0, g1, g2, g3⟩ := s2.cells
              obtain ⟨lt, c0, c1, c2, c3⟩ := s.cells
              rw [hsm]
              go_wp2_with fail
              go_ret
              exact ⟨rfl, s.b⟩
          · have mt2 := mayZB_no qy
            refine (mayZone_any bs A5 c5 A' c' fr M [] _ _ s2.z.s s2.z.y s2.le s2.z.l s2.z.l').mono ?_
            rintro e wz ⟨rfl, bb⟩
            replace s := s.step bb
            replace s2 := s2.step bb
            clear bb lt c0 c1 c2 c3 lt2 g0 g1 g2 g3
            obtain ⟨lt2, g0, g1, g2, g3⟩ := s2.cells
            obtain ⟨lt, c0, c1, c2, c3⟩ := s.cells
            rw [mt2]
            go_wp2_with fail
            refine (first_any _).mono ?_
            rintro e wz ⟨rfl, bb⟩
            replace s := s.step bb
            replace s2 := s2.step bb
            clear bb lt c0 c1 c2 c3 lt2 g0 g1 g2 g3
            obtain ⟨lt2, g0, g1, g2, g3⟩ := s2.cells
            obtain ⟨lt, c0, c1, c2, c3⟩ := s.cells
            go_wp2_with fail
            go_ret
            exact ⟨rfl, s.b⟩
        · have tt := decide_eq_false qt
          go_enter Try.func10, Try.ntmps10
          go_wp2_with fail
          have s : St w (w.alloc (zo bs A L.length c A' 0 c' fr)) w.heap.size bs A c A' c' fr L [] := St.new_ hz
          generalize w.alloc (zo bs A L.length c A' 0 c' fr) = w1 at s ⊢
          obtain ⟨lt, c0, c1, c2, c3⟩ := s.cells
          refine (first_any _).mono ?_
          rintro e wz ⟨rfl, bb⟩
          replace s := s.step bb
          clear bb lt c0 c1 c2 c3
          obtain ⟨lt, c0, c1, c2, c3⟩ := s.cells
          go_wp2_with fail
          refine (few_any).mono ?_
          rintro e wz ⟨rfl, bb⟩
          replace s := s.step bb
          clear bb lt c0 c1 c2 c3
          obtain ⟨lt, c0, c1, c2, c3⟩ := s.cells
          rw [ft]
          go_wp2_with fail
          refine (mayZone_any bs A c A' c' fr L [] w.heap.size _ s.z.s s.z.y s.le s.z.l s.z.l').mono ?_
          rintro e wz ⟨rfl, bb⟩
          replace s := s.step bb
          clear bb lt c0 c1 c2 c3
          obtain ⟨lt, c0, c1, c2, c3⟩ := s.cells
          rw [mt]
          go_wp2_with fail
          refine (may_any u _).mono ?_
          rintro e wz ⟨rfl, rfl⟩
          rw [tt]
          go_wp2_with fail
          refine (first_any _).mono ?_
          rintro e wz ⟨rfl, bb⟩
          replace s := s.step bb
          clear bb lt c0 c1 c2 c3
          obtain ⟨lt, c0, c1, c2, c3⟩ := s.cells
          go_wp2_with fail
          go_ret
          exact ⟨rfl, s.b⟩
      · have mt := mayZB_no qm
        go_enter Try.func10, Try.ntmps10
        go_wp2_with fail
        have s : St w (w.alloc (zo bs A L.length c A' 0 c' fr)) w.heap.size bs A c A' c' fr L [] := St.new_ hz
        generalize w.alloc (zo bs A L.length c A' 0 c' fr) = w1 at s ⊢
        obtain ⟨lt, c0, c1, c2, c3⟩ := s.cells
        refine (first_any _).mono ?_
        rintro e wz ⟨rfl, bb⟩
        replace s := s.step bb
        clear bb lt c0 c1 c2 c3
        obtain ⟨lt, c0, c1, c2, c3⟩ := s.cells
        go_wp2_with fail
        refine (few_any).mono ?_
        rintro e wz ⟨rfl, bb⟩
        replace s := s.step bb
        clear bb lt c0 c1 c2 c3
        obtain ⟨lt, c0, c1, c2, c3⟩ := s.cells
        rw [ft]
        go_wp2_with fail
        refine (mayZone_any bs A c A' c' fr L [] w.heap.size _ s.z.s s.z.y s.le s.z.l s.z.l').mono ?_
        rintro e wz ⟨rfl, bb⟩
        replace s := s.step bb
        clear bb lt c0 c1 c2 c3
        obtain ⟨lt, c0, c1, c2, c3⟩ := s.cells
        rw [mt]
        go_wp2_with fail
        refine (first_any _).mono ?_
        rintro e wz ⟨rfl, bb⟩
        replace s := s.step bb
        clear bb lt c0 c1 c2 c3
        obtain ⟨lt, c0, c1, c2, c3⟩ := s.cells
        go_wp2_with fail
        go_ret
        exact ⟨rfl, s.b⟩
  · have ft := decide_eq_false qf
    go_enter Try.func10, Try.ntmps10
    go_wp2_with fail
    have s : St w (w.alloc (zo bs A L.length c A' Y.length c' fr)) w.heap.size bs A c A' c' fr L Y := St.new_ hz
    generalize w.alloc (zo bs A L.length c A' Y.length c' fr) = w1 at s ⊢
    obtain ⟨lt, c0, c1, c2, c3⟩ := s.cells
    refine (first_any _).mono ?_
    rintro e wz ⟨rfl, bb⟩
    replace s := s.step bb
    clear bb lt c0 c1 c2 c3
    obtain ⟨lt, c0, c1, c2, c3⟩ := s.cells
    go_wp2_with fail
    refine (few_any).mono ?_
    rintro e wz ⟨rfl, bb⟩
    replace s := s.step bb
    clear bb lt c0 c1 c2 c3
    obtain ⟨lt, c0, c1, c2, c3⟩ := s.cells
    rw [ft]
    go_wp2_with fail
    refine (first_any _).mono ?_
    rintro e wz ⟨rfl, bb⟩
    replace s := s.step bb
    clear bb lt c0 c1 c2 c3
    obtain ⟨lt, c0, c1, c2, c3⟩ := s.cells
    go_wp2_with fail
    go_ret
    exact ⟨rfl, s.b⟩
end Go.Proofs.Ytbnchbcdgffkaaa
