/- FrameSums: sums together: the walk. -/
import Derived.Test.YteecjdlegnnbmaaFirst
import Derived.Deep.RegionHeld3
import Derived.Deep.DrawnRows
namespace Go.Proofs.Yteecjdlegnnbmaa
open Go.RowKit
set_option linter.unusedVariables false
attribute [local go_sem ↓] Go.wp_at_zero Go.wp_at_succ
theorem Own.named {w : World} {base : Nat} {v : Value} {l : List Nat} (h : Own w base v l) (hl : 0 < l.length) : ∃ g cp, v = .slice (some ⟨g, 0, none⟩) l.length cp ∧ base ≤ g := by
  rcases h.2 with ⟨rfl, hx⟩ | ⟨g, cp, cur, rfl, hb, _⟩
  · have : l = [] := by simpa [bys] using hx
    subst this
    cases hl
  · exact ⟨g, cp, rfl, hb⟩
theorem Own.set_ {w : World} {base g cp : Nat} {l : List Nat} (h : Own w base (.slice (some ⟨g, 0, none⟩) l.length cp) l) {j : Nat} (hj : j < l.length) (n : Nat) :
    Own (w.setCell ⟨g, j, none⟩ (.int .u8 (n : Int))) base (.slice (some ⟨g, 0, none⟩) (l.set j n).length cp) (l.set j n) := by
  have h1 := World.ownsRow.stored h j (.int .u8 (n : Int))
  unfold Own
  have e : bys (l.set j n) = (bys l).set j (.int .u8 (n : Int)) := by simp [bys, List.map_set]
  rw [e, List.length_set]
  exact h1.1
theorem Own.at_ {w : World} {base g cp : Nat} {l : List Nat} (h : Own w base (.slice (some ⟨g, 0, none⟩) l.length cp) l) {j : Nat} (hj : j < l.length) : w.cell? ⟨g, j, none⟩ = some (.int .u8 (l[j] : Int)) := by
  rw [World.ownsRow.cellAt h j (by omega)]
  simp [bys, List.getElem?_eq_getElem hj]
theorem Own.froz {w : World} {base g cp : Nat} {l : List Nat} (h : Own w base (.slice (some ⟨g, 0, none⟩) l.length cp) l) (j : Nat) : w.frozen? ⟨g, j, none⟩ = false := World.ownsRow.frozenAt h j
theorem xor3_length (l k m : List Nat) (h1 : k.length = l.length) (h2 : m.length = l.length) : (Crc.xor3 l k m).length = l.length := by
  induction l generalizing k m with
  | nil => cases k <;> cases m <;> rfl
  | cons x l ih =>
    match k, m, h1, h2 with
    | y :: k, z :: m, h1, h2 => simp only [Crc.xor3, List.length_cons, ih k m (by simpa using h1) (by simpa using h2)]
theorem xor3_get (l k m : List Nat) (h1 : k.length = l.length) (h2 : m.length = l.length) (j : Nat) (hj : j < l.length) : (Crc.xor3 l k m)[j]'(by rw [xor3_length l k m h1 h2]; exact hj) = l[j] ^^^ k[j] ^^^ m[j] := by
  induction l generalizing k m j with
  | nil => cases hj
  | cons x l ih =>
    match k, m, h1, h2 with
    | y :: k, z :: m, h1, h2 =>
      cases j with
      | zero => rfl
      | succ j => exact ih k m (by simpa using h1) (by simpa using h2) j (by simpa using hj)
theorem xor3_small (l k m : List Nat) (a : Small l) (b : Small k) (c : Small m) : Small (Crc.xor3 l k m) := by
  induction l generalizing k m with
  | nil => intro x hx; cases k <;> cases m <;> cases hx
  | cons x l ih =>
    match k, m with
    | [], _ => intro x hx; cases hx
    | _ :: _, [] => intro x hx; cases hx
    | y :: k, z :: m =>
      intro u hu
      rcases List.mem_cons.1 hu with rfl | hu
      · exact Nat.xor_lt_two_pow (n := 8) (Nat.xor_lt_two_pow (n := 8) (a x (by simp)) (b y (by simp))) (c z (by simp))
      · exact ih k m (fun v hv => a v (by simp [hv])) (fun v hv => b v (by simp [hv])) (fun v hv => c v (by simp [hv])) u hu
theorem set_keep {w : World} {p q : Addr} {u v : Value} (h : w.cell? q = some u) (hne : q.block ≠ p.block) : (w.setCell p v).drew.cell? q = some u := (World.cell?_setCell_other w p q v (fun e => hne (by rw [e]))).trans h
theorem set_cell {w : World} {p : Addr} {u : Int} (h : w.cell? p = some (.int .u8 u)) (v : Int) : ∃ y : Int, (w.setCell p (.int .u8 v)).drew.cell? p = some (.int .u8 y) := ⟨v, World.cell?_setCell_same w p _ h⟩
theorem set_froz {w : World} {p : Addr} (h : w.frozen? p = false) (v : Value) : (w.setCell p v).drew.frozen? p = false := (World.frozen?_setCell w p p v).trans h
theorem BytesAt.geti {w : World} {B : Nat} {A : Option Addr} {l : List Nat} (h : BytesAt w B A l) {k : Nat} (hk : k < l.length) : ∃ ad, A = some ad ∧ w.cell? (ad.add k) = some (.int .u8 (l[k] : Int)) ∧ (ad.add k).block < B := by
  obtain ⟨ad, e, hc⟩ := h.get hk
  obtain ⟨ad', _, e', hb, _, _⟩ := h.at_ hk
  rw [e] at e'
  injection e' with e'
  subst e'
  exact ⟨ad, e, hc, by rw [block_of_add]; exact hb⟩
/-- The first j bytes of X, then those of l. -/
def half (X l : List Nat) (j : Nat) : List Nat := X.take j ++ l.drop j
theorem half_length {X l : List Nat} {j : Nat} (h : X.length = l.length) : (half X l j).length = l.length := by
  unfold half; rw [List.length_append, List.length_take, List.length_drop]; omega
theorem half_set {X l : List Nat} {j : Nat} (h : X.length = l.length) (hj : j < l.length) : (half X l j).set j (X[j]'(by omega)) = half X l (j + 1) := by
  unfold half
  have e : (X.take j).length = j := by rw [List.length_take]; omega
  rw [List.set_append_right _ _ (by omega), e, Nat.sub_self, List.drop_eq_getElem_cons hj, List.set_cons_zero, List.take_succ_eq_append_getElem (by omega), List.append_assoc]
  rfl
theorem half_full {X l : List Nat} (h : X.length = l.length) : half X l l.length = X := by
  unfold half
  rw [List.drop_length, List.append_nil, List.take_of_length_le (by omega)]
theorem crc_set {l : List Nat} (hs : Small l) {p : Nat} (hp : p < l.length) {x : Nat} (hx : x < 256) (h0 : x ≠ 0) : ((Crc.crc (l.set p (l[p] ^^^ x)) : Nat) : Int) ≠ (Crc.crc l : Nat) := by
  intro h
  have h' : Crc.crc (l.set p (l[p] ^^^ x)) = Crc.crc l := by exact_mod_cast h
  have e1 : l.set p (l[p] ^^^ x) = l.take p ++ (l[p] ^^^ x) :: l.drop (p + 1) := List.set_eq_take_append_cons_drop ▸ (by rw [if_pos hp])
  have e2 : l = l.take p ++ l[p] :: l.drop (p + 1) := by rw [← List.drop_eq_getElem_cons hp, List.take_append_drop]
  rw [e1] at h'
  have h2 : Crc.crc (l.take p ++ (l[p] ^^^ x) :: l.drop (p + 1)) = Crc.crc (l.take p ++ l[p] :: l.drop (p + 1)) := h'.trans (congrArg Crc.crc e2)
  have h3 := Crc.crc_turned (hs.take p) (hs.drop (p + 1)) (Nat.xor_lt_two_pow (n := 8) (hs.get hp) hx) (hs.get hp) h2
  apply h0
  have h4 : l[p] ^^^ (l[p] ^^^ x) = l[p] ^^^ l[p] := by rw [h3]
  rwa [← Nat.xor_assoc, Nat.xor_self, Nat.zero_xor] at h4
theorem Small.set {l : List Nat} (h : Small l) {p x : Nat} (hx : x < 256) : Small (l.set p x) := fun y hy => by
  rcases List.mem_or_eq_of_mem_set hy with h1 | h1
  · exact h y h1
  · omega
theorem sums_eq {l k m : List Nat} (s0 : Small l) (s1 : Small k) (s2 : Small m) (h1 : k.length = l.length) (h2 : m.length = l.length) : bits .xor .u32 (bits .xor .u32 ((Crc.crc l : Nat) : Int) ((Crc.crc k : Nat) : Int)) ((Crc.crc m : Nat) : Int) = ((Crc.crc (Crc.xor3 l k m) : Nat) : Int) := by
  rw [u32_xor_nat _ _ (Crc.crc_lt s0) (Crc.crc_lt s1), u32_xor_nat _ _ (Nat.xor_lt_two_pow (n := 32) (Crc.crc_lt s0) (Crc.crc_lt s1)) (Crc.crc_lt s2), Crc.crc_xor3 l k m h1 h2]
theorem xors {a b c : Nat} (ha : a < 256) (hb : b < 256) (hc : c < 256) : bits .xor .u8 (bits .xor .u8 (a : Int) (b : Int)) (c : Int) = ((a ^^^ b ^^^ c : Nat) : Int) := by
  rw [u8_xor_nat a b ha hb, u8_xor_nat _ c (Nat.xor_lt_two_pow (n := 8) ha hb) hc]
set_option maxRecDepth 100000 in
set_option maxHeartbeats 1000000 in
theorem sums_bytes (A0 A1 A2 : Option Addr) (c0 c1 c2 : Nat) (l k m : List Nat) (at_ : Int) (x : Nat) (w : World) (h0 : BytesAt w w.heap.size A0 l) (h1 : BytesAt w w.heap.size A1 k) (h2 : BytesAt w w.heap.size A2 m)
    (s0 : Small l) (s1 : Small k) (s2 : Small m) (m0 : l.length ≤ maxLen) (m1 : k.length ≤ maxLen) (m2 : m.length ≤ maxLen) (hat1 : -9223372036854775808 ≤ at_) (hat2 : at_ ≤ 9223372036854775807) (hx : x < 256) :
    Calls Try.prog 4 #[.slice A0 l.length c0, .slice A1 k.length c1, .slice A2 m.length c2, .int .i64 at_, .int .u8 x] w fun e w' => e = .returned (.bool true) ∧ Below w.heap.size w w' := by
  unfold maxLen at m0 m1 m2
  by_cases hg : l.length ≤ 20000 ∧ k.length = l.length ∧ m.length = l.length
  · obtain ⟨hl, e1, e2⟩ := hg
    have q1 : ((k.length : Int) != (l.length : Int)) = false := by simp; omega
    have q2 : ((m.length : Int) != (l.length : Int)) = false := by simp; omega
    have E1 := Lib.hid e1
    have E2 := Lib.hid e2
    clear e1 e2
    go_enter Try.func4, Try.ntmps4
    go_wp2_with fail
    refine (first_any _).mono ?_
    rintro e w1 ⟨rfl, b1⟩
    have hw1 := b1.size
    go_wp2_with fail
    refine (copy_any A0 c0 _ l w1 (h0.below b1) (by omega)).mono ?_
    rintro e w2 ⟨A4, c4, rfl, O2, b2⟩
    have D2 := O2.mono hw1
    have b2a := b1.trans (b2.mono hw1)
    clear O2 b2 b1
    have hXl := xor3_length l k m E1.out E2.out
    have HX := Lib.hid hXl
    clear hXl
    go_wp2_with fail
    go_loopw [12] (fun i wr => ∃ j : Nat, j ≤ l.length ∧ i = .int .i64 j ∧ Own wr w.heap.size (.slice A4 l.length c4) (half (Crc.xor3 l k m) l j) ∧ Below w.heap.size w wr) (fun i _ => l.length - (intOf i).toNat)
    case atStart => exact ⟨0, Nat.zero_le _, rfl, by simpa [half] using D2, b2a⟩
    case round =>
      clear D2 b2a
      obtain ⟨j, hj, rfl, D, b⟩ := hrel
      have hH := half_length (j := j) HX.out
      by_cases hlt : j < l.length
      · obtain ⟨a0, rfl, p0, n0⟩ := (h0.below b).geti hlt
        have hj1 : j < k.length := by rw [E1.out]; exact hlt
        have hj2 : j < m.length := by rw [E2.out]; exact hlt
        obtain ⟨a1, rfl, p1, n1⟩ := (h1.below b).geti (k := j) (by rw [E1.out]; exact hlt)
        obtain ⟨a2, rfl, p2, n2⟩ := (h2.below b).geti (k := j) (by rw [E2.out]; exact hlt)
        have D' : Own wr w.heap.size (.slice A4 (half (Crc.xor3 l k m) l j).length c4) (half (Crc.xor3 l k m) l j) := by rw [hH]; exact D
        obtain ⟨g, cp, hv, hgB⟩ := D'.named (by omega)
        injection hv with hv1 _ hv2
        subst hv1 hv2
        replace n0 : (a0.add j).block ≠ g := by omega
        replace n1 : (a1.add j).block ≠ g := by omega
        replace n2 : (a2.add j).block ≠ g := by omega
        obtain ⟨y, pd⟩ : ∃ y : Int, wr.cell? ⟨g, j, none⟩ = some (.int .u8 y) := ⟨_, D'.at_ (j := j) (by omega)⟩
        have fd := D'.froz j
        have hxs := xors (s0.get hlt) (s1.get (k := j) (by rw [E1.out]; exact hlt)) (s2.get (k := j) (by rw [E2.out]; exact hlt))
        rw [← xor3_get l k m E1.out E2.out j hlt] at hxs
        obtain ⟨X, hX, ST⟩ : ∃ X : Nat, X = (Crc.xor3 l k m)[j]'(by rw [HX.out]; exact hlt) ∧ Hid (Own (wr.setCell ⟨g, j, none⟩ (.int .u8 (X : Int))) w.heap.size (.slice (some ⟨g, 0, none⟩) l.length c4) (half (Crc.xor3 l k m) l (j + 1))) := by
          refine ⟨_, rfl, Lib.hid ?_⟩
          have st := D'.set_ (j := j) (by omega) ((Crc.xor3 l k m)[j]'(by rw [HX.out]; exact hlt))
          rw [half_set HX.out hlt, half_length HX.out] at st
          exact st
        rw [← hX] at hxs
        clear hX hH D'
        generalize l[j] = z0 at p0 hxs
        generalize k[j]'(by rw [E1.out]; exact hlt) = z1 at p1 hxs
        generalize m[j]'(by rw [E2.out]; exact hlt) = z2 at p2 hxs
        go_wp2_with fail
        go_region_held3 (fun w' => w'.cell? (a0.add j) = some (.int .u8 (z0 : Int)) ∧ w'.cell? (a1.add j) = some (.int .u8 (z1 : Int)) ∧ w'.cell? (a2.add j) = some (.int .u8 (z2 : Int)) ∧ (∃ y : Int, w'.cell? ⟨g, j, none⟩ = some (.int .u8 y)) ∧ w'.frozen? ⟨g, j, none⟩ = false) (first | exact ⟨set_keep p0 n0, set_keep p1 n1, set_keep p2 n2, set_cell pd _, set_froz fd _⟩ | go_keep) (fail)
        go_wp2_with fail
        go_roundw
        case rel => exact ⟨j + 1, by omega, by go_num, ST.out, (b.setCell (by exact hgB) _).drew⟩
        case measure => simp [intOf]; omega
      · obtain rfl : j = l.length := by omega
        rw [half_full HX.out] at D
        clear hH
        have hw := b.size
        have hS := sum_any A4 c4 _ (Crc.xor3 l k m) wr (by have D' : Own wr w.heap.size (.slice A4 (Crc.xor3 l k m).length c4) (Crc.xor3 l k m) := (by rw [HX.out]; exact D); exact D'.reads) (Nat.le_refl _) (xor3_small l k m s0 s1 s2) (by rw [HX.out]; simp only [maxLen]; omega)
        rw [HX.out] at hS
        go_wp2_with fail
        refine hS.mono ?_
        rintro e w3 ⟨rfl, b3⟩
        replace b3 := b.trans (b3.mono hw)
        clear hS D b hw
        have hw3 := b3.size
        go_wp2_with fail
        refine (sum_any A0 c0 _ l w3 (h0.below b3) hw3 s0 (by simp only [maxLen]; omega)).mono ?_
        rintro e w4 ⟨rfl, b4⟩
        replace b4 := b3.trans (b4.mono hw3)
        have hw4 := b4.size
        clear b3 hw3
        go_wp2_with fail
        refine (sum_any A1 c1 _ k w4 (h1.below b4) hw4 s1 (by simp only [maxLen]; omega)).mono ?_
        rintro e w5 ⟨rfl, b5⟩
        replace b5 := b4.trans (b5.mono hw4)
        have hw5 := b5.size
        clear b4 hw4
        go_wp2_with fail
        refine (sum_any A2 c2 _ m w5 (h2.below b5) hw5 s2 (by simp only [maxLen]; omega)).mono ?_
        rintro e w6 ⟨rfl, b6⟩
        replace b6 := b5.trans (b6.mono hw5)
        have hw6 := b6.size
        clear b5 hw5
        have hq := sums_eq s0 s1 s2 E1.out E2.out
        have parts : at_ < 0 ∨ (¬ at_ < 0 ∧ (l.length : Int) ≤ at_) ∨ (¬ at_ < 0 ∧ ¬ (l.length : Int) ≤ at_ ∧ x = 0) ∨ (¬ at_ < 0 ∧ ¬ (l.length : Int) ≤ at_ ∧ x ≠ 0) := by omega
        rcases parts with p1 | ⟨p1, p2⟩ | ⟨p1, p2, rfl⟩ | ⟨p1, p2, p3⟩
        iterate 3
          focus
            go_wp2_with fail
            refine (first_any _).mono ?_
            rintro e w7 ⟨rfl, b7⟩
            go_wp2_with fail
            go_ret
            exact ⟨rfl, b6.trans (b7.mono hw6)⟩
        have hx0 : ((x : Int) == 0) = false := by simp; omega
        go_wp2_with fail
        refine (copy_any A0 c0 _ l w6 (h0.below b6) (by omega)).mono ?_
        rintro e w7 ⟨A7, c7, rfl, O7, b7⟩
        replace O7 := O7.mono hw6
        replace b7 := b6.trans (b7.mono hw6)
        clear b6 hw6 hq
        obtain ⟨p, rfl⟩ := Int.eq_ofNat_of_zero_le (show 0 ≤ at_ by omega)
        have hp : p < l.length := by omega
        obtain ⟨g, cp, hv, hgB⟩ := O7.named (by omega)
        injection hv with hv1 _ hv2
        subst hv1 hv2
        have pd := O7.at_ hp
        have fd := O7.froz p
        have hxx := u8_xor_nat l[p] x (s0.get hp) hx
        have st := O7.set_ hp (l[p] ^^^ x)
        have hne := crc_set s0 hp hx p3
        have hsm := s0.set (p := p) (Nat.xor_lt_two_pow (n := 8) (s0.get hp) hx)
        have hlen : (l.set p (l[p] ^^^ x)).length = l.length := List.length_set
        have hS := fun (w8 : World) (h : BytesAt w8 w8.heap.size (some ⟨g, 0, none⟩) (l.set p (l[p] ^^^ x))) => sum_any (some ⟨g, 0, none⟩) c7 _ (l.set p (l[p] ^^^ x)) w8 h (Nat.le_refl _) hsm (by rw [hlen]; simp only [maxLen]; omega)
        rw [hlen] at hS
        have b8 := b7.setCell (p := ⟨g, p, none⟩) hgB (.int .u8 ((l[p] ^^^ x : Nat) : Int))
        have HR := Lib.hid st.reads
        have hne1 : (((Crc.crc (l.set p (l[p] ^^^ x)) : Nat) : Int) != ((Crc.crc l : Nat) : Int)) = true := by simpa using hne
        clear hlen st hne b7
        generalize l.set p (l[p] ^^^ x) = l2 at hS HR hsm hne1
        generalize l[p] ^^^ x = y at hxx HR b8
        generalize l[p] = z at pd hxx
        go_wp2_with fail
        refine (first_any _).mono ?_
        rintro e w9 ⟨rfl, b9⟩
        have R9 := HR.out.size_ b9
        replace b9 := b8.trans (b9.mono b8.size)
        have hw9 := b9.size
        clear b8 HR
        go_wp2_with fail
        refine (hS w9 R9).mono ?_
        rintro e w10 ⟨rfl, b10⟩
        replace b10 := b9.trans (b10.mono hw9)
        have hw10 := b10.size
        clear b9 hw9 R9
        go_wp2_with fail
        refine (sum_any A0 c0 _ l w10 (h0.below b10) hw10 s0 (by simp only [maxLen]; omega)).mono ?_
        rintro e w11 ⟨rfl, b11⟩
        replace b11 := b10.trans (b11.mono hw10)
        go_wp2_with fail
        go_ret
        exact ⟨rfl, b11⟩
  · have parts : 20000 < l.length ∨ (¬ 20000 < l.length ∧ k.length ≠ l.length) ∨ (¬ 20000 < l.length ∧ k.length = l.length ∧ m.length ≠ l.length) := by omega
    rcases parts with r1 | ⟨r1, r2⟩ | ⟨r1, r2, r3⟩
    case' inl => skip
    case' inr.inl => have q1 : ((k.length : Int) != (l.length : Int)) = true := by simp; omega
    case' inr.inr =>
      have q1 : ((k.length : Int) != (l.length : Int)) = false := by simp; omega
      have q2 : ((m.length : Int) != (l.length : Int)) = true := by simp; omega
      clear r2
    all_goals
      go_enter Try.func4, Try.ntmps4
      go_wp2_with fail
      refine (first_any _).mono ?_
      rintro e w1 ⟨rfl, b1⟩
      have hw1 := b1.size
      go_wp2_with fail
      refine (first_any _).mono ?_
      rintro e w2 ⟨rfl, b2⟩
      go_wp2_with fail
      go_ret
      exact ⟨rfl, b1.trans (b2.mono hw1)⟩
end Go.Proofs.Yteecjdlegnnbmaa
