/- The order of texts of moments. -/
import Derived.Test.YtkeeocidinnnnaaDoorFst
namespace Go.Proofs.YtkeeocidinnnnaaDoor
open Go.RowKit
set_option linter.unusedVariables false
def dc (k : Nat) : UInt8 := UInt8.ofNat (48 + k)
/-- A number by just so many digits. -/
def fx : Nat → Nat → List UInt8
  | 0, _ => []
  | k + 1, u => fx k (u / 10) ++ [dc (u % 10)]
theorem fx_len : ∀ (k u : Nat), (fx k u).length = k
  | 0, _ => rfl
  | k + 1, u => by simp [fx, fx_len k]
theorem fx_zero : ∀ k : Nat, fx k 0 = Lib.repeatL [48] k
  | 0 => rfl
  | k + 1 => by
    rw [fx, fx_zero k, show k + 1 = k + 1 from rfl, Lib.repeatL_add [48] k 1]
    rfl
theorem dec_len (u : Nat) : (Lib.decDigits u).length = Lib.nDigits u := Lib.decDigits_length u
theorem dec_fx : ∀ (k u : Nat), u < 10 ^ (k + 1) → Lib.repeatL [48] (k + 1 - (Lib.decDigits u).length) ++ Lib.decDigits u = fx (k + 1) u
  | 0, u, h => by
    have h : u < 10 := by simpa using h
    rw [Lib.decDigits_one h]
    simp [Lib.repeatL, fx, dc]
    rw [show u % 10 = u by omega]
  | k + 1, u, h => by
    by_cases q : u < 10
    · rw [Lib.decDigits_one q]
      have e : fx (k + 1 + 1) u = fx (k + 1) (u / 10) ++ [dc (u % 10)] := rfl
      rw [e, show u / 10 = 0 by omega, show u % 10 = u by omega, fx_zero]
      rfl
    · have e : fx (k + 1 + 1) u = fx (k + 1) (u / 10) ++ [dc (u % 10)] := rfl
      have ih := dec_fx k (u / 10) (by rw [Nat.pow_succ] at h; omega)
      have ed : Lib.decDigits u = Lib.decDigits (u / 10) ++ [dc (u % 10)] := by rw [Lib.decDigits, dif_neg q]; rfl
      rw [e, ← ih, ed]
      simp
theorem dgs_fx (n : Int) (k : Nat) (h0 : 0 ≤ n) (h1 : n.toNat < 10 ^ (k + 1)) : dgs n (k + 1) = fx (k + 1) n.toNat := by
  unfold dgs Lib.itoa
  rw [if_neg (by omega)]
  exact dec_fx k _ h1
theorem less_app : ∀ (a b x y : List UInt8), a.length = b.length → Op.bytesLess (a ++ x) (b ++ y) = (Op.bytesLess a b || (a == b && Op.bytesLess x y))
  | [], [], x, y, _ => by simp [Op.bytesLess]
  | a :: l, b :: m, x, y, h => by
    have ih := less_app l m x y (by simpa using h)
    have e : Op.bytesLess (a :: l ++ (x)) (b :: m ++ y) = (decide (a < b) || (a == b && Op.bytesLess (l ++ x) (m ++ y))) := rfl
    have e2 : Op.bytesLess (a :: l) (b :: m) = (decide (a < b) || (a == b && Op.bytesLess l m)) := rfl
    have e3 : (a :: l == b :: m) = (a == b && l == m) := rfl
    rw [e, ih, e2, e3]
    cases decide (a < b) <;> cases (a == b) <;> simp
  | [], b :: m, x, y, h => by simp at h
  | a :: l, [], x, y, h => by simp at h
theorem eq_app : ∀ (a b x y : List UInt8), a.length = b.length → (a ++ x == b ++ y) = (a == b && x == y)
  | [], [], x, y, _ => by simp
  | a :: l, b :: m, x, y, h => by
    have ih := eq_app l m x y (by simpa using h)
    have e : (a :: l ++ x == b :: m ++ y) = (a == b && (l ++ x == m ++ y)) := rfl
    have e3 : (a :: l == b :: m) = (a == b && l == m) := rfl
    rw [e, ih, e3, Bool.and_assoc]
  | [], b :: m, x, y, h => by simp at h
  | a :: l, [], x, y, h => by simp at h
theorem dc_lt : ∀ i j : Fin 10, decide (dc i.val < dc j.val) = decide (i.val < j.val) ∧ (dc i.val == dc j.val) = decide (i.val = j.val) := by decide +kernel
theorem fx_ord : ∀ (k u v : Nat), u < 10 ^ k → v < 10 ^ k → Op.bytesLess (fx k u) (fx k v) = decide (u < v) ∧ (fx k u == fx k v) = decide (u = v)
  | 0, u, v, hu, hv => by
    have : u = 0 := by simpa using hu
    have : v = 0 := by simpa using hv
    subst_vars
    exact ⟨rfl, rfl⟩
  | k + 1, u, v, hu, hv => by
    obtain ⟨i1, i2⟩ := fx_ord k (u / 10) (v / 10) (by rw [Nat.pow_succ] at hu; omega) (by rw [Nat.pow_succ] at hv; omega)
    obtain ⟨d1, d2⟩ := dc_lt ⟨u % 10, by omega⟩ ⟨v % 10, by omega⟩
    simp only at d1 d2
    have l : (fx k (u / 10)).length = (fx k (v / 10)).length := by rw [fx_len, fx_len]
    have e1 : Op.bytesLess [dc (u % 10)] [dc (v % 10)] = decide (dc (u % 10) < dc (v % 10)) := by simp [Op.bytesLess]
    have e2 : ([dc (u % 10)] == [dc (v % 10)]) = (dc (u % 10) == dc (v % 10)) := by simp
    simp only [fx]
    rw [less_app _ _ _ _ l, eq_app _ _ _ _ l, e1, e2, i1, i2, d1, d2]
    constructor
    · rw [Bool.eq_iff_iff]; simp; omega
    · rw [Bool.eq_iff_iff]; simp; omega
/-- The text of a date and a time, by just so many digits. -/
def txtN (y m d h i s : Nat) : List UInt8 := fx 4 y ++ fx 2 m ++ fx 2 d ++ [84] ++ fx 2 h ++ fx 2 i ++ fx 2 s
theorem txt_fx {y m d s : Int} (y1 : 0 ≤ y) (y2 : y ≤ 9999) (m1 : 0 ≤ m) (m2 : m ≤ 99) (d1 : 0 ≤ d) (d2 : d ≤ 99) (s1 : 0 ≤ s) (s2 : s < 86400) : txt y m d s = txtN y.toNat m.toNat d.toNat (s / 3600).toNat (s / 60 % 60).toNat (s % 60).toNat := by
  unfold txt txtN
  rw [dgs_fx y 3 y1 (by simp; omega), dgs_fx m 1 m1 (by simp; omega), dgs_fx d 1 d1 (by simp; omega), dgs_fx (s / 3600) 1 (by omega) (by simp; omega), dgs_fx (s / 60 % 60) 1 (by omega) (by simp; omega), dgs_fx (s % 60) 1 (by omega) (by simp; omega)]
theorem txtN_len (y m d h i s : Nat) : (txtN y m d h i s).length = 15 := by simp [txtN, fx_len]
theorem txtN_ord {y m d h i s y' m' d' h' i' s' : Nat} (a1 : y < 10000) (a2 : m < 100) (a3 : d < 100) (a4 : h < 100) (a5 : i < 100) (a6 : s < 100) (b1 : y' < 10000) (b2 : m' < 100) (b3 : d' < 100) (b4 : h' < 100) (b5 : i' < 100) (b6 : s' < 100) :
    (Op.bytesLess (txtN y m d h i s) (txtN y' m' d' h' i' s') = true ↔ y < y' ∨ y = y' ∧ (m < m' ∨ m = m' ∧ (d < d' ∨ d = d' ∧ (h < h' ∨ h = h' ∧ (i < i' ∨ i = i' ∧ s < s'))))) ∧
    ((txtN y m d h i s == txtN y' m' d' h' i' s') = true ↔ y = y' ∧ m = m' ∧ d = d' ∧ h = h' ∧ i = i' ∧ s = s') := by
  obtain ⟨p1, q1⟩ := fx_ord 4 y y' a1 b1
  obtain ⟨p2, q2⟩ := fx_ord 2 m m' a2 b2
  obtain ⟨p3, q3⟩ := fx_ord 2 d d' a3 b3
  obtain ⟨p4, q4⟩ := fx_ord 2 h h' a4 b4
  obtain ⟨p5, q5⟩ := fx_ord 2 i i' a5 b5
  obtain ⟨p6, q6⟩ := fx_ord 2 s s' a6 b6
  have pT : Op.bytesLess [84] [84] = false := by decide
  have qT : ([84] == ([84] : List UInt8)) = true := by decide
  unfold txtN
  repeat rw [less_app _ _ _ _ (by simp [fx_len])]
  repeat rw [eq_app _ _ _ _ (by simp [fx_len])]
  rw [p1, p2, p3, p4, p5, p6, q1, q2, q3, q4, q5, q6, pT, qT]
  constructor
  · simp only [Bool.or_eq_true, Bool.and_eq_true, decide_eq_true_eq, Bool.and_true, Bool.false_eq_true, and_false, or_false]
    constructor
    · rintro ((((((h | h) | h) | h) | h) | h))
      all_goals omega
    · intro hh
      by_cases e1 : y = y'
      · by_cases e2 : m = m'
        · by_cases e3 : d = d'
          · by_cases e4 : h = h'
            · omega
            · omega
          · omega
        · omega
      · omega
  · simp only [Bool.and_eq_true, decide_eq_true_eq, Bool.and_true]
    constructor <;> intro h <;> omega
/-- P2.4: the later moment has the greater text. -/
theorem rises {a b y m d y' m' d' : Int} (v : Civ.valid y m d) (n : Civ.num y m d = a / 86400) (v' : Civ.valid y' m' d') (n' : Civ.num y' m' d' = b / 86400) :
    Op.bytesLess (txt y m d (a % 86400)) (txt y' m' d' (b % 86400)) = decide (a < b) ∧ (txt y m d (a % 86400) == txt y' m' d' (b % 86400)) = decide (a = b) := by
  obtain ⟨m1, m2⟩ := Civ.valid_m v
  obtain ⟨m3, m4⟩ := Civ.valid_m v'
  have l1 := Civ.len_pos y m m1 m2
  have l2 := Civ.len_pos y' m' m3 m4
  have hlt := Civ.num_lt v' v
  have hlt2 := Civ.num_lt v v'
  have hinj : Civ.num y m d = Civ.num y' m' d' → y = y' ∧ m = m' ∧ d = d' := fun e => Civ.num_inj v v' e
  have hcon : y = y' ∧ m = m' ∧ d = d' → Civ.num y m d = Civ.num y' m' d' := by rintro ⟨rfl, rfl, rfl⟩; rfl
  obtain ⟨y1, y2, d1, d2⟩ := v
  obtain ⟨y3, y4, d3, d4⟩ := v'
  rw [txt_fx (by omega) (by omega) (by omega) (by omega) (by omega) (by omega) (by omega) (by omega), txt_fx (by omega) (by omega) (by omega) (by omega) (by omega) (by omega) (by omega) (by omega)]
  obtain ⟨h1, h2⟩ := txtN_ord (y := y.toNat) (m := m.toNat) (d := d.toNat) (h := (a % 86400 / 3600).toNat) (i := (a % 86400 / 60 % 60).toNat) (s := (a % 86400 % 60).toNat) (y' := y'.toNat) (m' := m'.toNat) (d' := d'.toNat) (h' := (b % 86400 / 3600).toNat) (i' := (b % 86400 / 60 % 60).toNat) (s' := (b % 86400 % 60).toNat) (by omega) (by omega) (by omega) (by omega) (by omega) (by omega) (by omega) (by omega) (by omega) (by omega) (by omega) (by omega)
  constructor
  · rw [Bool.eq_iff_iff, h1, decide_eq_true_eq]
    rw [n, n'] at hlt hlt2 hinj hcon
    clear h1 h2 l1 l2 d2 d4 n n'
    omega
  · rw [Bool.eq_iff_iff, h2, decide_eq_true_eq]
    rw [n, n'] at hlt hlt2 hinj hcon
    clear h1 h2 l1 l2 d2 d4 n n'
    omega
end Go.Proofs.YtkeeocidinnnnaaDoor
