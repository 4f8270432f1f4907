/- FrameApart: a record is found at its place: the walk. -/
import Derived.Test.YteecjdlegnnbmaaGet
import Derived.Test.YteecjdlegnnbmaaFirst
namespace Go.Proofs.Yteecjdlegnnbmaa
open Go.RowKit
set_option linter.unusedVariables false
theorem Own.room {w : World} {base n c : Nat} {A : Option Addr} {l : List Nat} (h : Own w base (.slice A n c) l) : Room A n c := by
  rcases h.2 with ⟨e, _⟩ | ⟨g, cp, cur, e, _, _, hn, hm, _⟩
  · injection e with e1 e2 e3
    subst e1 e2 e3
    exact ⟨Nat.le_refl _, by simp⟩
  · injection e with e1 e2 e3
    subst e1 e2 e3
    exact ⟨hn, hm⟩
theorem recd_num (p b : List Nat) (h : p.length < 65536) : numAt (recd p ++ b) = p.length := by
  have e : recd p ++ b = p.length / 256 :: p.length % 256 :: (be4 (Crc.crc (hd p.length ++ p)) ++ p ++ b) := by simp [recd, hd]
  rw [e]
  show p.length / 256 * 256 + p.length % 256 = p.length
  omega
theorem recd_drop (p b : List Nat) : (recd p ++ b).drop 6 = p ++ b := by
  simp [recd, hd, be4]
theorem getx_recd {p : List Nat} (b : List Nat) (h : p.length ≤ 8192) : getx (recd p ++ b) = .ok p := by
  have hn := recd_num p b (by omega)
  have hl : (recd p ++ b).length = p.length + 6 + b.length := by rw [List.length_append, recd_length]
  have h2 : ((recd p ++ b).drop 6).take p.length = p := by rw [recd_drop, List.take_append_of_le_length (Nat.le_refl _), List.take_length]
  have h3 : (recd p ++ b).take (6 + p.length) = recd p := by
    rw [List.take_append_of_le_length (by rw [recd_length]; omega), List.take_of_length_le (by rw [recd_length]; omega)]
  rw [getx_ok (by omega) (by omega) (by omega) (by rw [hn, h2, h3]), hn, h2]
theorem getd_recd {p : List Nat} (a b : List Nat) (h : p.length ≤ 8192) : getd (a ++ recd p ++ b) (a.length : Int) = .ok p := by
  rw [getd_in (by simp), List.append_assoc, List.drop_left]
  exact getx_recd b h
theorem bytes_same (A A' : Option Addr) (c c' B B' : Nat) (l : List Nat) (w : World) (ha : BytesAt w B A l) (hb : BytesAt w B' A' l) (sl : Small l) :
    Calls Try.prog 14 #[.slice A l.length c, .slice A' l.length c'] w fun e w' => e = .returned (.bool true) ∧ w = w' :=
  (bytes_any A A' c c' B B' l l w ha hb sl sl).mono fun e w' ⟨he, hw⟩ => ⟨by rw [he]; simp, hw⟩
/-- Get, of a row of one's own. -/
theorem get_own {base c : Nat} {A : Option Addr} {l : List Nat} {w : World} (O : Own w base (.slice A l.length c) l) (hs : Small l) (i : Int) (hi1 : -9223372036854775808 ≤ i) (hi2 : i ≤ 9223372036854775807) {g : Got} (hg : getd l i = g) :
    Calls Try.prog 17 #[.slice A l.length c, .int .i64 i] w fun e w' => Told w g i e w' := by
  subst hg
  exact get_any A c _ l i w O.reads (Nat.le_refl _) hs O.room hi1 hi2
set_option maxRecDepth 100000 in
set_option maxHeartbeats 2000000 in
theorem apart_bytes (A0 A1 A2 : Option Addr) (c0 c1 c2 : Nat) (l k m : List Nat) (w : World) (h0 : BytesAt w w.heap.size A0 l) (h1 : BytesAt w w.heap.size A1 k) (h2 : BytesAt w w.heap.size A2 m)
    (s0 : Small l) (s1 : Small k) (s2 : Small m) (m0 : l.length ≤ maxLen) (m1 : k.length ≤ maxLen) (m2 : m.length ≤ maxLen) :
    Calls Try.prog 5 #[.slice A0 l.length c0, .slice A1 k.length c1, .slice A2 m.length c2] w fun e w' => e = .returned (.bool true) ∧ Below w.heap.size w w' := by
  unfold maxLen at m0 m1 m2
  obtain ⟨i0, hi, hz0, hz1, hz2⟩ := info_parts byte_row
  by_cases hg : l.length ≤ 6000 ∧ k.length ≤ 6000 ∧ m.length ≤ 6000
  · obtain ⟨q0, q1, q2⟩ := hg
    have d0 : decide ((6000 : Int) < (l.length : Int)) = false := by simp; omega
    have d1 : decide ((6000 : Int) < (k.length : Int)) = false := by simp; omega
    have d2 : decide ((6000 : Int) < (m.length : Int)) = false := by simp; omega
    go_enter Try.func5, Try.ntmps5
    go_wp2_with fail
    refine (first_any _).mono ?_
    rintro e w1 ⟨rfl, b1⟩
    have hw1 := b1.size
    go_wp2_with fail
    refine (put_yes A1 c1 _ k w1 (h1.below b1) hw1 s1 (by omega)).mono ?_
    rintro e w2 ⟨A3, c3, rfl, O3, b3⟩
    have b2 := b1.trans (b3.mono hw1)
    have hw2 := b2.size
    clear b1 b3
    have hrl := recd_length k
    have HRL := Lib.hid hrl
    clear hrl
    go_wp2_with fail
    refine (copy_any A0 c0 _ l w2 (h0.below b2) (by omega)).mono ?_
    rintro e w3 ⟨A4, c4, rfl, O4, b4⟩
    have O3a := O3.below b4 (Nat.le_refl _)
    have n34 := O3.later O4 (Nat.le_refl _)
    have b3 := b2.trans (b4.mono hw2)
    have R3 := O3a.reads
    have hw3 := b4.size
    clear O3 b4 b2
    go_wp2_with (first
      | (at_builtin; refine wpList_append_any _ rfl (.tmp 46) (.tmp 47) _ rfl w2.heap.size 5 i0 _ 1 1 Try.underlying22 hi hz0 hz1 hz2 rfl (by omega) _ _ _ rfl O4 _ A3 (recd k).length c3 (bys (recd k)) rfl R3 (bys_one _) (by rw [HRL.out]; simp only [maxLen]; omega) (by rw [HRL.out]; omega) hw3 ?_; intro v5 w5 o5 g5 at5; have O5 := own_more o5 rfl; obtain ⟨Y, hY⟩ : ∃ Y, Y = l ++ recd k := ⟨_, rfl⟩; rw [← hY] at O5; have hYl : Y.length ≤ 12006 := (by rw [hY, List.length_append, HRL.out]; omega); replace hY := Lib.hid hY; have b5 := b3.grown g5 b3.size (fun k hk => by have := (World.ownsRow.lt O4 k hk).1; omega); have h5 := h2.below b5; obtain ⟨A5, c5, rfl⟩ := O5.form)
      | (at_builtin; refine wpList_append_any _ rfl (.tmp 48) (.tmp 49) _ rfl w2.heap.size 5 i0 _ 1 1 Try.underlying22 hi hz0 hz1 hz2 rfl (by omega) _ _ _ rfl O5 _ A2 m.length c2 (bys m) rfl h5 (bys_one m) (by simp only [maxLen]; omega) (by omega) (by have := g5.size; omega) ?_; intro v6 w6 o6 g6 at6; have O6 := own_more o6 rfl; obtain ⟨Z, hZ⟩ : ∃ Z, Z = Y ++ m := ⟨_, rfl⟩; rw [← hZ] at O6; have hZl : Z.length ≤ 18006 := (by rw [hZ, List.length_append]; omega); replace hZ := Lib.hid hZ; have b6 := b5.grown g6 b5.size (fun k hk => by have := (World.ownsRow.lt O5 k hk).1; omega); obtain ⟨A6, c6, rfl⟩ := O6.form))
    have hZZ : Hid (Z = l ++ recd k ++ m) := Lib.hid (hZ.out.trans (by rw [hY.out]))
    have sZ : Small Z := hZZ.out ▸ ((s0.append (recd_small s1 (by omega))).append s2)
    have G0 : getd Z (l.length : Int) = .ok k := hZZ.out ▸ getd_recd l m (by omega)
    have G1 : getd Z ((Z.length : Int) + 1) = .err 1 := getd_out (by omega)
    have G2 : getd Z (-1) = .err 1 := getd_out (by omega)
    have G3 : getd Z (Z.length : Int) = .err 2 := by rw [getd_in (Nat.le_refl _), List.drop_length]; rfl
    clear O5 h5 o5 o6 g5 g6 at5 at6 b5 O4 O3a R3 n34 b3
    have hw6 := b6.size
    refine (get_own O6 sZ l.length (by omega) (by omega) G0).mono ?_
    rintro e w7 ⟨A7, c7, rfl, O7, b7⟩
    replace O6 := O6.below b7 (Nat.le_refl _)
    replace b7 := b6.trans (b7.mono hw6)
    have hw7 := b7.size
    clear b6
    go_wp2_with fail
    refine (get_own O6 sZ _ (by omega) (by omega) G1).mono ?_
    rintro e w8 ⟨rfl, b8⟩
    replace O6 := O6.below b8 (Nat.le_refl _)
    replace O7 := O7.below b8 (Nat.le_refl _)
    replace b8 := b7.trans (b8.mono hw7)
    have hw8 := b8.size
    clear b7
    go_wp2_with fail
    refine (get_own O6 sZ _ (by omega) (by omega) G2).mono ?_
    rintro e w9 ⟨rfl, b9⟩
    replace O6 := O6.below b9 (Nat.le_refl _)
    replace O7 := O7.below b9 (Nat.le_refl _)
    replace b9 := b8.trans (b9.mono hw8)
    have hw9 := b9.size
    clear b8
    go_wp2_with fail
    refine (get_own O6 sZ _ (by omega) (by omega) G3).mono ?_
    rintro e w10 ⟨rfl, b10⟩
    replace O7 := O7.below b10 (Nat.le_refl _)
    replace b10 := b9.trans (b10.mono hw9)
    have hw10 := b10.size
    clear b9
    go_wp2_with fail
    refine (first_any _).mono ?_
    rintro e w11 ⟨rfl, b11⟩
    replace O7 := O7.below b11 (Nat.le_refl _)
    replace b11 := b10.trans (b11.mono hw10)
    clear b10
    go_wp2_with fail
    refine (bytes_same A7 A1 c7 c1 _ _ k w11 O7.reads (h1.below b11) s1).mono ?_
    rintro e w12 ⟨rfl, rfl⟩
    have hrb : (recd k).length ≤ 6006 := by rw [HRL.out]; omega
    have hlast : (((l.length : Int) + 6 + (k.length : Int)) == ((l.length : Int) + ((recd k).length : Int))) = true := by rw [HRL.out]; simp; omega
    go_wp2_with fail
    go_ret
    exact ⟨rfl, b11⟩
  · have parts : 6000 < l.length ∨ (¬ 6000 < l.length ∧ 6000 < k.length) ∨ (¬ 6000 < l.length ∧ ¬ 6000 < k.length ∧ 6000 < m.length) := by omega
    rcases parts with r1 | ⟨r1, r2⟩ | ⟨r1, r2, r3⟩
    all_goals
      go_enter Try.func5, Try.ntmps5
      go_wp2_with fail
      refine (first_any _).mono ?_
      rintro e w1 ⟨rfl, b1⟩
      have hw1 := b1.size
      go_wp2_with fail
      refine (first_any _).mono ?_
      rintro e w2 ⟨rfl, b2⟩
      go_wp2_with fail
      go_ret
      exact ⟨rfl, b1.trans (b2.mono hw1)⟩
end Go.Proofs.Yteecjdlegnnbmaa
