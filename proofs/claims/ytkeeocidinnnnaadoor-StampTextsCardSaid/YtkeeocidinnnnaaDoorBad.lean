/- stamp.Parse of what is no moment's text. -/
import Derived.Test.YtkeeocidinnnnaaDoorRis
namespace Go.Proofs.YtkeeocidinnnnaaDoor
open Go.RowKit
set_option linter.unusedVariables false
set_option maxRecDepth 100000 in
set_option maxHeartbeats 4000000 in
theorem number_no (s : ByteArray) (hs : s.size ≤ 17) (k : Nat) (hk : k < s.size) (hn : ¬ IsDig s k) (w : World) :
    Calls Tryd.prog 36 #[.string s] w fun e w' => e = .returned (.tuple #[.int .i64 0, .bool false]) ∧ w = w' := by
  have hn := Lib.hid hn
  go_enter Tryd.func36, Tryd.ntmps36
  go_wp2_with fail
  go_loopw [4, 8] (fun nv kv wr => ∃ j : Nat, j ≤ k ∧ nv = .int .i64 (pre s j) ∧ kv = .int .i64 (j : Int) ∧ (∀ i, i < j → IsDig s i) ∧ w = wr) (fun nv kv _ => s.size - (intOf kv).toNat)
  case atStart => exact ⟨0, Nat.zero_le _, rfl, rfl, fun i h => absurd h (by omega), rfl⟩
  case round =>
    obtain ⟨j, hj, rfl, rfl, hall, rfl⟩ := hrel
    have hlt : j < s.size := by omega
    have i0 : (0 : Int) ≤ (j : Int) := by omega
    have i1 : (j : Int) < (s.size : Int) := by omega
    by_cases hd : IsDig s j
    · have hjk : j < k := by
        rcases Nat.lt_or_eq_of_le hj with h | rfl
        · exact h
        · exact absurd hd hn.out
      have hall2 := Lib.hid (show ∀ i, i < j + 1 → IsDig s i from fun i h => by
        rcases Nat.lt_or_eq_of_le (Nat.le_of_lt_succ h) with h | rfl
        · exact hall i h
        · exact hd)
      obtain ⟨p1, p2⟩ := pre_bd j hall
      have p3 := pow_le j (by omega)
      obtain ⟨d1, d2⟩ := hd hlt
      have hP := Lib.hid (show pre s (j + 1) = 10 * pre s j + ((s[j].toNat : Int) - 48) by simp only [pre, dig]; rw [dif_pos hlt])
      clear hall hd
      generalize hB : s[j].toNat = b at d1 d2 hP
      have p4 : pre s j ≤ 100000000000000000 := by omega
      clear p2 p3
      generalize hp : pre s j = n at p1 p4 hP ⊢
      have hp := Lib.hid hp
      have t1 : decide ((b : Int) < 48) = false := decide_eq_false (by omega)
      have t2 : decide ((57 : Int) < (b : Int)) = false := decide_eq_false (by omega)
      go_wp2_with fail
      go_roundw
      case rel => exact ⟨j + 1, by omega, by rw [hP.out], by simp, hall2.out, trivial⟩
      case measure => simp [intOf]; omega
    · have hnb : ¬ (48 ≤ s[j].toNat ∧ s[j].toNat ≤ 57) := fun h => hd fun _ => h
      clear hall hd
      generalize hB : s[j].toNat = b at hnb
      generalize pre s j = n
      by_cases q : b < 48
      · have t1 : decide ((b : Int) < 48) = true := decide_eq_true (by omega)
        clear hnb
        go_wp2_with fail
        go_ret2
        exact ⟨rfl, rfl⟩
      · have t1 : decide ((b : Int) < 48) = false := decide_eq_false (by omega)
        have t2 : decide ((57 : Int) < (b : Int)) = true := decide_eq_true (by omega)
        clear hnb
        go_wp2_with fail
        go_ret2
        exact ⟨rfl, rfl⟩
theorem parse_short (s : ByteArray) (h : s.size < 15) (w : World) : Calls Tryd.prog 16 #[.string s] w fun e w' => e = .returned (.tuple #[.int .i64 0, .int .i64 2]) ∧ w = w' := by
  have t : decide ((s.size : Int) < 15) = true := decide_eq_true (by omega)
  go_enter Tryd.func16, Tryd.ntmps16
  go_wp2_with fail
  go_ret2
  exact ⟨rfl, rfl⟩
theorem parse_long (s : ByteArray) (h : 15 < s.size) (w : World) : Calls Tryd.prog 16 #[.string s] w fun e w' => e = .returned (.tuple #[.int .i64 0, .int .i64 4]) ∧ w = w' := by
  have t : decide ((s.size : Int) < 15) = false := decide_eq_false (by omega)
  have t2 : decide ((15 : Int) < (s.size : Int)) = true := decide_eq_true (by omega)
  go_enter Tryd.func16, Tryd.ntmps16
  go_wp2_with fail
  go_ret2
  exact ⟨rfl, rfl⟩
theorem parse_noT (s : ByteArray) (hs : s.size = 15) (hT : ∀ h : 8 < s.size, s[8].toNat ≠ 84) (w : World) : Calls Tryd.prog 16 #[.string s] w fun e w' => e = .returned (.tuple #[.int .i64 0, .int .i64 4]) ∧ w = w' := by
  have q8 : 8 < s.size := by omega
  have hT := hT q8
  generalize hB : s[8].toNat = b at hT
  have t1 : ((b : Int) != 84) = true := by rw [bne_iff_ne]; omega
  clear hT
  go_enter Tryd.func16, Tryd.ntmps16
  go_wp2_with fail
  go_ret2
  exact ⟨rfl, rfl⟩
/-- One of the two parts has a sign that is no digit. -/
theorem parse_bad (s : ByteArray) (hs : s.size = 15) (hT : ∀ h : 8 < s.size, s[8].toNat = 84) (k : Nat) (hk : (k < 8 ∧ ¬ IsDig (s.extract 0 8) k) ∨ ((∀ i, i < 8 → IsDig (s.extract 0 8) i) ∧ k < 6 ∧ ¬ IsDig (s.extract 9 15) k)) (h2 : k < 8 ∧ ¬ IsDig (s.extract 0 8) k → ∀ i, i < 6 → IsDig (s.extract 9 15) i) (w : World) :
    Calls Tryd.prog 16 #[.string s] w fun e w' => e = .returned (.tuple #[.int .i64 0, .int .i64 4]) ∧ w = w' := by
  have z1 : (s.extract 0 8).size = 8 := by rw [ByteArray.size_extract]; omega
  have z2 : (s.extract 9 15).size = 6 := by rw [ByteArray.size_extract]; omega
  have q8 : 8 < s.size := by omega
  have hT := hT q8
  rcases hk with hk | ⟨h1, hk, hn⟩
  · have N1 := number_no (s.extract 0 8) (by omega) k (by omega) hk.2
    have N2 := number_yes (s.extract 9 15) (by omega) (by rw [z2]; exact h2 hk)
    generalize pre (s.extract 9 15) (s.extract 9 15).size = v at N2
    clear h2 hk
    go_enter Tryd.func16, Tryd.ntmps16
    go_wp2_with fail
    refine (N1 _).mono ?_
    rintro e w3 ⟨rfl, rfl⟩
    go_wp2_with fail
    refine (N2 _).mono ?_
    rintro e w3 ⟨rfl, rfl⟩
    go_wp2_with fail
    go_ret2
    exact ⟨rfl, rfl⟩
  · have N1 := number_yes (s.extract 0 8) (by omega) (by rw [z1]; exact h1)
    have N2 := number_no (s.extract 9 15) (by omega) k (by omega) hn
    generalize pre (s.extract 0 8) (s.extract 0 8).size = v at N1
    clear h2 hn h1
    go_enter Tryd.func16, Tryd.ntmps16
    go_wp2_with fail
    refine (N1 _).mono ?_
    rintro e w3 ⟨rfl, rfl⟩
    go_wp2_with fail
    refine (N2 _).mono ?_
    rintro e w3 ⟨rfl, rfl⟩
    go_wp2_with fail
    go_ret2
    exact ⟨rfl, rfl⟩
end Go.Proofs.YtkeeocidinnnnaaDoor
