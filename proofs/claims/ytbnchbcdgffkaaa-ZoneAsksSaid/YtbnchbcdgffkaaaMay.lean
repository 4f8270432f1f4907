/- zone.May. -/
import Derived.Test.YtbnchbcdgffkaaaYea
namespace Go.Proofs.Ytbnchbcdgffkaaa
open Go.RowKit
set_option linter.unusedVariables false
/-- A zone's value. -/
abbrev zv (bs : Int) (A : Option Addr) (n c : Nat) (A' : Option Addr) (n' c' : Nat) (fr : Int) : Value := .agg #[.int .i64 bs, .slice A n c, .slice A' n' c', .int .i64 fr]
abbrev zo (bs : Int) (A : Option Addr) (n c : Nat) (A' : Option Addr) (n' c' : Nat) (fr : Int) : Obj := .cells #[.int .i64 bs, .slice A n c, .slice A' n' c', .int .i64 fr] 25
/-- A zone in a box. -/
structure Boxed (w : World) (p : Nat) (bs : Int) (A : Option Addr) (n c : Nat) (A' : Option Addr) (n' c' : Nat) (fr : Int) : Prop where
  lt : p < w.heap.size
  c0 : w.cell? ⟨p, 0, none⟩ = some (.int .i64 bs)
  c1 : w.cell? ⟨p, 1, none⟩ = some (.slice A n c)
  c2 : w.cell? ⟨p, 2, none⟩ = some (.slice A' n' c')
  c3 : w.cell? ⟨p, 3, none⟩ = some (.int .i64 fr)
section
variable {w w' : World} {p : Nat} {bs : Int} {A : Option Addr} {n c : Nat} {A' : Option Addr} {n' c' : Nat} {fr : Int}
theorem Boxed.below {B : Nat} (h : Boxed w p bs A n c A' n' c' fr) (b : Below B w w') (hp : p < B) : Boxed w' p bs A n c A' n' c' fr :=
  ⟨Nat.lt_of_lt_of_le h.lt b.size, (b.cell hp).trans h.c0, (b.cell hp).trans h.c1, (b.cell hp).trans h.c2, (b.cell hp).trans h.c3⟩
theorem Boxed.new_ (w : World) : Boxed (w.alloc (zo bs A n c A' n' c' fr)) w.heap.size bs A n c A' n' c' fr :=
  ⟨by simp, World.cell?_alloc_at _ _ _ _ rfl, World.cell?_alloc_at _ _ _ _ rfl, World.cell?_alloc_at _ _ _ _ rfl, World.cell?_alloc_at _ _ _ _ rfl⟩
theorem Boxed.drew (h : Boxed w p bs A n c A' n' c' fr) : Boxed w.drew p bs A n c A' n' c' fr := ⟨h.lt, h.c0, h.c1, h.c2, h.c3⟩
end
/-- Yearly shifts behind the others. -/
structure MayF (L : List Sh) (Y : List Yr) (fr : Int) (a b : Yr) : Prop where
  eq : Y = [a, b]
  fr1 : 1 ≤ fr
  fr2 : fr ≤ 9999
  y : MayY a b
  gap : ∀ k (h : k < L.length), k + 1 = L.length → L[k].at_ + 200000 ≤ Civ.fst fr * 86400
/-- May it be a zone? -/
structure MayZ (bs : Int) (L : List Sh) (Y : List Yr) (fr : Int) : Prop where
  base : OffOk bs
  sh : MayS L
  yr : (Y = [] ∧ fr = 0) ∨ ∃ a b, MayF L Y fr a b
noncomputable def mayZB (bs : Int) (L : List Sh) (Y : List Yr) (fr : Int) : Bool := @decide (MayZ bs L Y fr) (Classical.propDecidable _)
theorem mayZB_yes {bs : Int} {L : List Sh} {Y : List Yr} {fr : Int} (h : MayZ bs L Y fr) : mayZB bs L Y fr = true := @decide_eq_true _ (Classical.propDecidable _) h
theorem mayZB_no {bs : Int} {L : List Sh} {Y : List Yr} {fr : Int} (h : ¬ MayZ bs L Y fr) : mayZB bs L Y fr = false := @decide_eq_false _ (Classical.propDecidable _) h
theorem mayZB_iff {bs : Int} {L : List Sh} {Y : List Yr} {fr : Int} : mayZB bs L Y fr = true ↔ MayZ bs L Y fr := @decide_eq_true_iff _ (Classical.propDecidable _)
theorem valid_first (y : Int) : Civ.valid y 1 1 ↔ 1 ≤ y ∧ y ≤ 9999 := by
  unfold Civ.valid
  have := Civ.len_pos y 1 (by omega) (by omega)
  exact ⟨fun h => ⟨h.1, h.2.1⟩, fun h => ⟨h.1, h.2, by omega, by omega⟩⟩
theorem num_first (y : Int) : Civ.num y 1 1 = Civ.fst y := by
  have : Civ.cum y 1 = 0 := by simp [Civ.cum]
  unfold Civ.num
  omega
set_option maxRecDepth 100000 in
set_option maxHeartbeats 4000000 in
theorem mayZone_any (bs : Int) (A : Option Addr) (c : Nat) (A' : Option Addr) (c' : Nat) (fr : Int) (L : List Sh) (Y : List Yr) (B : Nat) (w : World) (hs : ShAt w B A L) (hy : YrAt w B A' Y) (hB : B ≤ w.heap.size) (hl : L.length ≤ maxLen) (hl' : Y.length ≤ maxLen) :
    Calls Try.prog 18 #[zv bs A L.length c A' Y.length c' fr] w fun e w' => e = .returned (.bool (mayZB bs L Y fr)) ∧ Below w.heap.size w w' := by
  have hlm := Lib.hid hl
  unfold maxLen at hl hl'
  go_enter Try.func18, Try.ntmps18
  go_wp2_with fail
  have bx := (Below.refl w.heap.size w).alloc (Nat.le_refl _) (zo bs A L.length c A' Y.length c' fr)
  have HB := Lib.hid (Boxed.new_ (bs := bs) (A := A) (n := L.length) (c := c) (A' := A') (n' := Y.length) (c' := c') (fr := fr) w)
  generalize w.alloc (zo bs A L.length c A' Y.length c' fr) = w1 at bx HB ⊢
  obtain ⟨lt, c0, c1, c2, c3⟩ := HB.out
  have hs1 := hs.below (bx.mono hB)
  by_cases q1 : OffOk bs
  · have q1t := decide_eq_true q1
    go_wp2_with fail
    refine (offset_any _ _).mono ?_
    rintro e w3 ⟨rfl, rfl⟩
    rw [q1t]
    go_wp2_with fail
    refine (mayShifts_any A c B L w1 hs1 (Nat.le_trans hB bx.size) hlm.out).mono ?_
    rintro e w2 ⟨rfl, b2⟩
    have hw := bx.size
    have HB := Lib.hid (HB.out.below b2 lt)
    have b2 := bx.trans (b2.mono hw)
    clear bx c0 c1 c2 c3 q1t
    have hy2 := hy.below (b2.mono hB)
    clear hs1
    obtain ⟨lt, c0, c1, c2, c3⟩ := HB.out
    have hw2 := b2.size
    by_cases q2 : MayS L
    · have q2t := mayB_yes q2
      rw [q2t]
      clear q2t
      by_cases y0 : Y.length = 0
      · obtain rfl := List.length_eq_zero_iff.mp y0
        clear y0
        by_cases f0 : fr = 0
        · subst f0
          go_wp2_with fail
          go_ret
          exact ⟨by rw [mayZB_yes ⟨q1, q2, .inl ⟨rfl, rfl⟩⟩]; rfl, b2⟩
        · have t1 : (fr == 0) = false := by simpa using f0
          go_wp2_with fail
          go_ret
          exact ⟨by rw [mayZB_no fun h => by rcases h.yr with h | ⟨a, b, h⟩; · exact f0 h.2
                                             · cases h.eq]; rfl, b2⟩
      · by_cases y2 : Y.length = 2
        · obtain ⟨a, b, rfl⟩ : ∃ a b, Y = [a, b] := by
            match Y, y2 with
            | [a, b], _ => exact ⟨a, b, rfl⟩
          clear y0 y2
          have hF : MayZ bs L [a, b] fr → MayF L [a, b] fr a b := fun h => by
            rcases h.yr with h | ⟨a', b', h⟩
            · cases h.1
            · have e := h.eq
              injection e with e1 e
              injection e with e2 e
              subst e1 e2
              exact h
          by_cases f0 : 1 ≤ fr ∧ fr ≤ 9999
          · have HV := (valid_first fr).mpr f0
            go_wp2_with fail
            refine (make_yes fr 1 1 HV _).mono ?_
            rintro e w3 ⟨rfl, rfl⟩
            rw [num_first]
            clear HV
            have fb := fst_bd fr (by omega) (by omega)
            go_wp2_with fail
            refine (mayYears_any A' c' B a b w2 hy2 (Nat.le_trans hB b2.size)).mono ?_
            rintro e w3 ⟨rfl, b3⟩
            replace HB := Lib.hid (HB.out.below b3 lt)
            replace b3 := b2.trans (b3.mono hw2)
            clear c0 c1 c2 c3 b2
            have hs3 := hs.below (b3.mono hB)
            clear hy2
            obtain ⟨lt, c0, c1, c2, c3⟩ := HB.out
            by_cases q3 : MayY a b
            · have q3t := mayYB_yes q3
              rw [q3t]
              clear q3t
              by_cases l0 : L.length = 0
              · obtain rfl := List.length_eq_zero_iff.mp l0
                go_wp2_with fail
                go_ret
                exact ⟨by rw [mayZB_yes ⟨q1, q2, .inr ⟨a, b, rfl, f0.1, f0.2, q3, fun k h => absurd h (by simp)⟩⟩]; rfl, b3⟩
              · have t1 : ((L.length : Int) == 0) = false := by rw [beq_eq_false_iff_ne]; omega
                obtain ⟨ad, rfl, hbl, p0, -⟩ := hs3 (L.length - 1) (by omega)
                have i0 : (0 : Int) ≤ (L.length : Int) - 1 := by omega
                have i1 : (L.length : Int) - 1 < (L.length : Int) := by omega
                have i2 : ((L.length : Int) - 1).toNat = L.length - 1 := by omega
                have i3 : (1 : Int) ≤ (L.length : Int) := by omega
                have hk : L.length - 1 < L.length := by omega
                have hz := (q2.up.ok (L.length - 1) hk hk).1
                obtain ⟨z1, z2⟩ := hz
                have hG : (∀ k (h : k < L.length), k + 1 = L.length → L[k].at_ + 200000 ≤ Civ.fst fr * 86400) ↔ L[L.length - 1].at_ + 200000 ≤ Civ.fst fr * 86400 := by
                  constructor
                  · intro h; exact h _ hk (by omega)
                  · intro h k hk' e
                    obtain rfl : k = L.length - 1 := by omega
                    exact h
                by_cases q4 : L[L.length - 1].at_ + 200000 ≤ Civ.fst fr * 86400
                · have hv := Lib.hid (mayZB_yes (bs := bs) ⟨q1, q2, .inr ⟨a, b, rfl, f0.1, f0.2, q3, hG.mpr q4⟩⟩)
                  clear hG hF
                  go_wp2_with fail
                  go_ret
                  exact ⟨by rw [hv.out]; rfl, b3⟩
                · have hv := Lib.hid (mayZB_no (bs := bs) (L := L) (Y := [a, b]) (fr := fr) fun h => absurd (hG.mp (hF h).gap) q4)
                  have k4 := decide_eq_false q4
                  clear hG hF
                  go_wp2_with fail
                  go_ret
                  exact ⟨by rw [hv.out]; rfl, b3⟩
            · have q3t := mayYB_no q3
              rw [q3t]
              go_wp2_with fail
              go_ret
              exact ⟨by rw [mayZB_no fun h => absurd (hF h).y q3]; rfl, b3⟩
          · have HV := fun h => f0 ((valid_first fr).mp h)
            go_wp2_with fail
            refine (make_no fr 1 1 HV _).mono ?_
            rintro e w3 ⟨rfl, rfl⟩
            go_wp2_with fail
            go_ret
            exact ⟨by rw [mayZB_no fun h => f0 ⟨(hF h).fr1, (hF h).fr2⟩]; rfl, b2⟩
        · have t0 : ((Y.length : Int) == 0) = false := by rw [beq_eq_false_iff_ne]; omega
          have t2 : ((Y.length : Int) == 2) = false := by rw [beq_eq_false_iff_ne]; omega
          go_wp2_with fail
          go_ret
          exact ⟨by rw [mayZB_no fun h => by rcases h.yr with h | ⟨a, b, h⟩; · exact y0 (by rw [h.1]; rfl)
                                             · exact y2 (by rw [h.eq]; rfl)]; rfl, b2⟩
    · have q2t := mayB_no q2
      rw [q2t]
      go_wp2_with fail
      go_ret
      exact ⟨by rw [mayZB_no fun h => absurd h.sh q2]; rfl, b2⟩
  · have q1t := decide_eq_false q1
    go_wp2_with fail
    refine (offset_any _ _).mono ?_
    rintro e w3 ⟨rfl, rfl⟩
    rw [q1t]
    go_wp2_with fail
    go_ret
    exact ⟨by rw [mayZB_no fun h => absurd h.base q1]; rfl, bx⟩
end Go.Proofs.Ytbnchbcdgffkaaa
