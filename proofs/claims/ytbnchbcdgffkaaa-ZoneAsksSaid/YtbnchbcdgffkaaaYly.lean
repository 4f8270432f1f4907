/- zone.yearly. -/
import Derived.Test.YtbnchbcdgffkaaaRow
namespace Go.Proofs.Ytbnchbcdgffkaaa
open Go.RowKit
set_option linter.unusedVariables false
/-- A yearly shift of a year. -/
def yearAt (y : Int) (x : Yr) : Sh := ⟨Civ.num y x.m (nthOf y x.m x.n x.w) * 86400 + x.s, x.o⟩
/-- The yearly shifts of a year. -/
def yearL (Y : List Yr) (fr y : Int) : List Sh := if y < fr ∨ 9999 < y then [] else Y.map (yearAt y)
theorem valid_nth {y m n wd : Int} (y1 : 1 ≤ y) (y2 : y ≤ 9999) (m1 : 1 ≤ m) (m2 : m ≤ 12) (n1 : 1 ≤ n) (n2 : n ≤ 5) : Civ.valid y m (nthOf y m n wd) :=
  ⟨y1, y2, (nthOf_bd y m n wd m1 m2 n1 n2).1, (nthOf_bd y m n wd m1 m2 n1 n2).2⟩
/-- A row of one shift, in a new block. -/
theorem one_row (w : World) (s : Sh) : Reads (w.alloc (.cells #[.int .i64 s.at_, .int .i64 s.off] 29)) (w.heap.size + 1) 2 (some ⟨w.heap.size, 0, none⟩) 1 (flat [s]) := by
  have h := World.ownsRow_lit w (base := w.heap.size) (e := 29) (size := 2) #[.int .i64 s.at_, .int .i64 s.off] 1 (Nat.le_refl _) (by simp [maxLen]) rfl
  have := Reads.of_own h
  rw [show (w.alloc (.cells #[.int .i64 s.at_, .int .i64 s.off] 29)).heap.size = w.heap.size + 1 by simp] at this
  exact this
theorem take_map_snoc {Y : List Yr} {j : Nat} (h : j < Y.length) (f : Yr → Sh) : (Y.take j).map f ++ [f Y[j]] = (Y.take (j + 1)).map f := by
  rw [List.take_succ_eq_append_getElem h, List.map_append]
  rfl
set_option maxRecDepth 100000 in
set_option maxHeartbeats 4000000 in
theorem yearly_two (bs : Int) (A : Option Addr) (n c : Nat) (A' : Option Addr) (c' : Nat) (fr y : Int) (a b : Yr) (B : Nat) (w : World) (hM : MayY a b) (hy : YrAt w B A' [a, b]) (hB : B ≤ w.heap.size) (f1 : 1 ≤ fr) (y1 : fr ≤ y) (y2 : y ≤ 9999) :
    Calls Try.prog 48 #[zv bs A n c A' 2 c' fr, .int .i64 y] w fun e w' => ∃ A1 c1, e = .returned (.slice A1 2 c1) ∧ OwnS w' w.heap.size (.slice A1 2 c1) [yearAt y a, yearAt y b] ∧ Below w.heap.size w w' := by
  obtain ⟨i0, hi, hz0, hz1, hz2⟩ := info_parts sh_row
  obtain ⟨Y, hY⟩ : ∃ Y, Y = [a, b] := ⟨_, rfl⟩
  have h2 : Y.length = 2 := by rw [hY]; rfl
  have hM : ∀ j (h : j < Y.length), YrOk Y[j] := by subst hY; exact mayY_at hM
  have hE : [yearAt y a, yearAt y b] = (Y.take 2).map (yearAt y) := by rw [hY]; rfl
  rw [hE]
  rw [← hY] at hy
  clear hE hY
  have k1 : decide (y < fr) = false := decide_eq_false (by omega)
  have k2 : decide (9999 < y) = false := decide_eq_false (by omega)
  go_enter Try.func48, Try.ntmps48
  go_wp2_with fail
  have bx := (Below.refl w.heap.size w).alloc (Nat.le_refl _) (zo bs A n c A' 2 c' fr)
  have HB := Lib.hid (Boxed.new_ (bs := bs) (A := A) (n := n) (c := c) (A' := A') (n' := 2) (c' := c') (fr := fr) w)
  have lt : w.heap.size < (w.alloc (zo bs A n c A' 2 c' fr)).heap.size := by simp
  generalize w.alloc (zo bs A n c A' 2 c' fr) = w1 at bx HB lt ⊢
  obtain ⟨_, c0, c1, c2, c3⟩ := HB.out
  go_wp2_with fail
  clear c0 c1 c2 c3
  go_loopw [5, 29] (fun sv kv wr => ∃ (j : Nat) (A1 : Option Addr) (k1 : Nat), j ≤ 2 ∧ sv = .slice A1 j k1 ∧ kv = .int .i64 (j : Int) ∧ OwnS wr w1.heap.size (.slice A1 j k1) ((Y.take j).map (yearAt y)) ∧ Below w1.heap.size w1 wr) (fun sv kv _ => 2 - (intOf kv).toNat)
  case atStart => exact ⟨0, none, 0, Nat.zero_le _, rfl, rfl, OwnS.nil_ _ _, Below.refl _ _⟩
  case round =>
    obtain ⟨j, A1, k1, hj, rfl, rfl, O, b1⟩ := hrel
    have hw := bx.size
    have hw1 := b1.size
    have b2 := bx.trans (b1.mono hw)
    by_cases hlt : j < 2
    · have hk : j < Y.length := by omega
      obtain ⟨ad, rfl, hbl, p0, p1, p2, p3, p4⟩ := hy.below (b2.mono hB) j hk
      have i0' : (0 : Int) ≤ (j : Int) := by omega
      have i1 : (j : Int) < 2 := by omega
      have hN := Lib.hid (take_map_snoc hk (yearAt y))
      have hq := hM j hk
      generalize Y[j] = x at p0 p1 p2 p3 p4 hq hN
      obtain ⟨m, n, wd, s, o⟩ := x
      obtain ⟨m1, m2, n1, n2, w1', w2', s1, s2, ho⟩ := hq
      simp only at p0 p1 p2 p3 p4 m1 m2 n1 n2 w1' w2' s1 s2 ho hN
      have oy1 : 1 ≤ y := by omega
      have HV := Lib.hid (valid_nth (wd := wd) oy1 y2 m1 m2 n1 n2)
      have hD := nth_any y m n wd oy1 y2 m1 m2 n1 n2 w1' w2'
      have O1 := O.alloc (.cells #[.int .i64 m, .int .i64 n, .int .i64 wd, .int .i64 s, .int .i64 o] 50)
      have b3 := b1.alloc hw1 (.cells #[.int .i64 m, .int .i64 n, .int .i64 wd, .int .i64 s, .int .i64 o] 50)
      go_wp2_with fail
      refine (hD _).mono ?_
      rintro e w3 ⟨rfl, rfl⟩
      clear hD
      go_wp2_with fail
      refine (make_yes _ _ _ HV.out _).mono ?_
      rintro e w3 ⟨rfl, rfl⟩
      have hN := Lib.hid (show _ ++ [(⟨Civ.num y m (nthOf y m n wd) * 86400 + s, o⟩ : Sh)] = _ from hN.out)
      obtain ⟨nb1, nb2⟩ := Civ.num_bd HV.out
      generalize Civ.num y m (nthOf y m n wd) = N at *
      have b4 := b3.alloc (by simp; omega) (.cells #[.int .i64 (N * 86400 + s), .int .i64 o] 29)
      have hR := (one_row (wr.alloc (.cells #[.int .i64 m, .int .i64 n, .int .i64 wd, .int .i64 s, .int .i64 o] 50)) ⟨N * 86400 + s, o⟩)
      rw [show (wr.alloc (.cells #[.int .i64 m, .int .i64 n, .int .i64 wd, .int .i64 s, .int .i64 o] 50)).heap.size = wr.heap.size + 1 by simp] at hR
      have O2 := O1.alloc (.cells #[.int .i64 (N * 86400 + s), .int .i64 o] 29)
      have hlen : ((Y.take j).map (yearAt y)).length = j := by simp; omega
      unfold OwnS at O2
      rw [hlen] at O2
      go_wp2_with (at_builtin; go_loud (refine wpList_append_any _ rfl (.tmp 52) (.tmp 60) _ rfl w1.heap.size 29 i0 _ 2 16 Try.underlying22 hi hz0 hz1 hz2 rfl (by omega) _ j _ rfl O2 _ _ 1 1 (flat [⟨N * 86400 + s, o⟩]) rfl hR (flat_one _) (by simp only [maxLen]; omega) (by omega) (by simp; omega) ?_); intro v5 w5 o5 g5 at5)
      have hfl : (flat ((Y.take j).map (yearAt y)) ++ flat [⟨N * 86400 + s, o⟩]) = flat ((Y.take (j + 1)).map (yearAt y)) := by rw [← flat_app, hN.out]
      have hlen1 : ((Y.take (j + 1)).map (yearAt y)).length = j + 1 := by simp; omega
      rw [hfl] at o5
      have ho : OwnS w5 w1.heap.size v5 ((Y.take (j + 1)).map (yearAt y)) := by unfold OwnS; rw [hlen1]; exact o5
      have b5 := b4.grown g5 (by simp; omega) (fun k hk => (World.ownsRow.lt O2 k hk).1)
      clear O2 hR o5 g5 at5 hfl b4 O1 b3 O hN
      obtain ⟨A5, c5, rfl⟩ := ho.form
      rw [hlen1] at ho ⊢
      go_wp2_with fail
      go_roundw
      case rel => exact ⟨j + 1, A5, c5, by omega, rfl, by simp, ho, b5⟩
      case measure => simp [intOf]; omega
    · obtain rfl : j = 2 := by omega
      go_wp2_with fail
      go_ret
      exact ⟨A1, k1, rfl, O.mono (Nat.le_of_lt lt), b2⟩
/-- None. -/
theorem yearly_none (bs : Int) (A : Option Addr) (n c : Nat) (A' : Option Addr) (c' : Nat) (fr y : Int) (w : World) :
    Calls Try.prog 48 #[zv bs A n c A' 0 c' fr, .int .i64 y] w fun e w' => e = .returned (.slice none 0 0) ∧ Below w.heap.size w w' := by
  have bx := (Below.refl w.heap.size w).alloc (Nat.le_refl _) (zo bs A n c A' 0 c' fr)
  go_enter Try.func48, Try.ntmps48
  go_wp2_with fail
  go_ret
  exact ⟨rfl, bx⟩
theorem yearly_out (bs : Int) (A : Option Addr) (n c : Nat) (A' : Option Addr) (c' : Nat) (fr y : Int) (w : World) (h : y < fr ∨ 9999 < y) :
    Calls Try.prog 48 #[zv bs A n c A' 2 c' fr, .int .i64 y] w fun e w' => e = .returned (.slice none 0 0) ∧ Below w.heap.size w w' := by
  have bx := (Below.refl w.heap.size w).alloc (Nat.le_refl _) (zo bs A n c A' 2 c' fr)
  by_cases q : y < fr
  · have qt := decide_eq_true q
    clear h
    go_enter Try.func48, Try.ntmps48
    go_wp2_with fail
    go_ret
    exact ⟨rfl, bx⟩
  · have q2 : 9999 < y := by omega
    clear h
    have qt := decide_eq_false q
    have qt2 := decide_eq_true q2
    go_enter Try.func48, Try.ntmps48
    go_wp2_with fail
    go_ret
    exact ⟨rfl, bx⟩
/-- Yearly shifts that may be. -/
def MayYs (Y : List Yr) (fr : Int) : Prop := Y = [] ∨ ∃ a b, Y = [a, b] ∧ MayY a b ∧ 1 ≤ fr ∧ fr ≤ 9999
theorem yearly_any (bs : Int) (A : Option Addr) (n c : Nat) (A' : Option Addr) (c' : Nat) (fr y : Int) (Y : List Yr) (B : Nat) (w : World) (hM : MayYs Y fr) (hy : YrAt w B A' Y) (hB : B ≤ w.heap.size) :
    Calls Try.prog 48 #[zv bs A n c A' Y.length c' fr, .int .i64 y] w fun e w' => ∃ A1 c1, e = .returned (.slice A1 (yearL Y fr y).length c1) ∧ OwnS w' w.heap.size (.slice A1 (yearL Y fr y).length c1) (yearL Y fr y) ∧ Below w.heap.size w w' := by
  rcases hM with rfl | ⟨a, b, rfl, hM, f1, f2⟩
  · refine (yearly_none bs A n c A' c' fr y w).mono ?_
    rintro e w' ⟨rfl, b⟩
    have e : yearL [] fr y = [] := by unfold yearL; split <;> rfl
    rw [e]
    exact ⟨none, 0, rfl, OwnS.nil_ _ _, b⟩
  · by_cases h : y < fr ∨ 9999 < y
    · refine (yearly_out bs A n c A' c' fr y w h).mono ?_
      rintro e w' ⟨rfl, b⟩
      have e : ∀ Y, yearL Y fr y = [] := by intro Y; unfold yearL; rw [if_pos h]
      rw [e]
      exact ⟨none, 0, rfl, OwnS.nil_ _ _, b⟩
    · refine (yearly_two bs A n c A' c' fr y a b B w hM hy hB f1 (by omega) (by omega)).mono ?_
      rintro e w' ⟨A1, c1, rfl, O, bb⟩
      have e : yearL [a, b] fr y = [yearAt y a, yearAt y b] := by unfold yearL; rw [if_neg h]; rfl
      rw [e]
      exact ⟨A1, c1, rfl, O, bb⟩
theorem MayZ.ys {bs : Int} {L : List Sh} {Y : List Yr} {fr : Int} (h : MayZ bs L Y fr) : MayYs Y fr := by
  rcases h.yr with h | ⟨a, b, h⟩
  · exact .inl h.1
  · exact .inr ⟨a, b, h.eq, h.y, h.fr1, h.fr2⟩
end Go.Proofs.Ytbnchbcdgffkaaa
