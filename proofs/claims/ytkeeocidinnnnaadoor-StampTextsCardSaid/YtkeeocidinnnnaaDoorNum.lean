/- stamp.number. -/
import Derived.Test.YtkeeocidinnnnaaDoorDate
namespace Go.Proofs.YtkeeocidinnnnaaDoor
open Go.RowKit
set_option linter.unusedVariables false
/-- The digit at a place. -/
def dig (s : ByteArray) (k : Nat) : Int := if h : k < s.size then (s[k].toNat : Int) - 48 else 0
/-- The number of the first k digits. -/
def pre (s : ByteArray) : Nat → Int
  | 0 => 0
  | k + 1 => 10 * pre s k + dig s k
def IsDig (s : ByteArray) (k : Nat) : Prop := ∀ h : k < s.size, 48 ≤ s[k].toNat ∧ s[k].toNat ≤ 57
theorem dig_bd {s : ByteArray} {k : Nat} (h : IsDig s k) : 0 ≤ dig s k ∧ dig s k ≤ 9 := by
  unfold dig
  split
  · rename_i q; have := h q; omega
  · omega
theorem pre_bd {s : ByteArray} (k : Nat) (h : ∀ i, i < k → IsDig s i) : 0 ≤ pre s k ∧ pre s k < 10 ^ k := by
  induction k with
  | zero => simp [pre]
  | succ k ih =>
    have h1 := ih fun i hi => h i (by omega)
    have h2 := dig_bd (h k (by omega))
    have h3 : (10 : Int) ^ (k + 1) = 10 ^ k * 10 := by rw [Int.pow_succ]
    rw [h3]
    simp only [pre]
    omega
theorem pow_le (k : Nat) (h : k ≤ 17) : (10 : Int) ^ k ≤ 100000000000000000 := by
  have : (10 : Nat) ^ k ≤ 10 ^ 17 := Nat.pow_le_pow_right (by omega) h
  have e : ((10 ^ k : Nat) : Int) = (10 : Int) ^ k := by push_cast; rfl
  rw [← e]
  omega
set_option maxRecDepth 100000 in
set_option maxHeartbeats 4000000 in
theorem number_yes (s : ByteArray) (hs : s.size ≤ 17) (hd : ∀ k, k < s.size → IsDig s k) (w : World) :
    Calls Tryd.prog 36 #[.string s] w fun e w' => e = .returned (.tuple #[.int .i64 (pre s s.size), .bool true]) ∧ w = w' := by
  go_enter Tryd.func36, Tryd.ntmps36
  go_wp2_with fail
  go_loopw [4, 8] (fun nv kv wr => ∃ j : Nat, j ≤ s.size ∧ nv = .int .i64 (pre s j) ∧ kv = .int .i64 (j : Int) ∧ w = wr) (fun nv kv _ => s.size - (intOf kv).toNat)
  case atStart => exact ⟨0, Nat.zero_le _, rfl, rfl, rfl⟩
  case round =>
    obtain ⟨j, hj, rfl, rfl, rfl⟩ := hrel
    by_cases hlt : j < s.size
    · have i0 : (0 : Int) ≤ (j : Int) := by omega
      have i1 : (j : Int) < (s.size : Int) := by omega
      obtain ⟨p1, p2⟩ := pre_bd j fun i hi => hd i (by omega)
      have p3 := pow_le j (by omega)
      obtain ⟨d1, d2⟩ := hd j hlt hlt
      have hP := Lib.hid (show pre s (j + 1) = 10 * pre s j + ((s[j].toNat : Int) - 48) by simp only [pre, dig]; rw [dif_pos hlt])
      generalize hB : s[j].toNat = b at d1 d2 hP
      have p4 : pre s j ≤ 100000000000000000 := by omega
      clear p2 p3
      generalize hp : pre s j = n at p1 p4 hP ⊢
      have hp := Lib.hid hp
      have t1 : decide ((b : Int) < 48) = false := decide_eq_false (by omega)
      have t2 : decide ((57 : Int) < (b : Int)) = false := decide_eq_false (by omega)
      go_wp2_with fail
      go_roundw
      case rel => exact ⟨j + 1, by omega, by rw [hP.out], by simp, trivial⟩
      case measure => simp [intOf]; omega
    · obtain rfl : j = s.size := by omega
      go_wp2_with fail
      go_ret2
      exact ⟨rfl, rfl⟩
/-- Parse, of a form that is one. -/
theorem sub_size (s : ByteArray) (a b : Nat) (h : a ≤ b) (hb : b ≤ s.size) : (s.extract a b).size = b - a := by
  rw [ByteArray.size_extract]; omega
end Go.Proofs.YtkeeocidinnnnaaDoor
