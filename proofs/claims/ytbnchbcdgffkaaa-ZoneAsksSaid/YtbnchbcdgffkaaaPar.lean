/- stamp.Parse of three texts; voklaw3.middle. -/
import Derived.Test.YtbnchbcdgffkaaaNum
import Derived.Test.YtbnchbcdgffkaaaOff
namespace Go.Proofs.Ytbnchbcdgffkaaa
open Go.RowKit
set_option linter.unusedVariables false
theorem make_full (y m d h mi s : Int) (hv : Civ.valid y m d) (h1 : 0 ≤ h) (h2 : h ≤ 23) (m1 : 0 ≤ mi) (m2 : mi ≤ 59) (s1 : 0 ≤ s) (s2 : s ≤ 59) (w : World) :
    Calls Try.prog 37 #[.int .i64 y, .int .i64 m, .int .i64 d, .int .i64 h, .int .i64 mi, .int .i64 s] w fun e w' => e = .returned (.tuple #[.int .i64 (Civ.num y m d * 86400 + 3600 * h + 60 * mi + s), .int .i64 0]) ∧ w = w' := by
  have hD := days_yes y m d hv
  have hb := Civ.num_bd hv
  clear hv
  generalize Civ.num y m d = nn at *
  obtain ⟨b1, b2⟩ := hb
  go_enter Try.func37, Try.ntmps37
  go_wp2_with fail
  refine (hD _).mono ?_
  rintro e w3 ⟨rfl, rfl⟩
  clear hD
  go_wp2_with fail
  go_ret2
  exact ⟨rfl, rfl⟩
set_option maxHeartbeats 4000000 in
theorem parse_full (s : ByteArray) (hs : s.size = 15) (hT : ∀ h : 8 < s.size, s[8].toNat = 84) (hd : ∀ k, k < 8 → IsDig (s.extract 0 8) k) (hd' : ∀ k, k < 6 → IsDig (s.extract 9 15) k) (a b : Int) (ha : pre (s.extract 0 8) 8 = a) (hb : pre (s.extract 9 15) 6 = b)
    (hv : Civ.valid (a / 10000) (a / 100 % 100) (a % 100)) (h2 : b / 10000 ≤ 23) (m2 : b / 100 % 100 ≤ 59) (s2 : b % 100 ≤ 59) (w : World) :
    Calls Try.prog 30 #[.string s] w fun e w' => e = .returned (.tuple #[.int .i64 (Civ.num (a / 10000) (a / 100 % 100) (a % 100) * 86400 + 3600 * (b / 10000) + 60 * (b / 100 % 100) + b % 100), .int .i64 0]) ∧ w = w' := by
  have z1 : (s.extract 0 8).size = 8 := by rw [ByteArray.size_extract]; omega
  have z2 : (s.extract 9 15).size = 6 := by rw [ByteArray.size_extract]; omega
  have N1 := number_yes (s.extract 0 8) (by omega) (by rw [z1]; exact hd)
  have N2 := number_yes (s.extract 9 15) (by omega) (by rw [z2]; exact hd')
  rw [z1, ha] at N1
  rw [z2, hb] at N2
  have p1 := pre_bd 8 hd
  have p2 := pre_bd 6 hd'
  rw [ha] at p1
  rw [hb] at p2
  have hM := make_full (a / 10000) (a / 100 % 100) (a % 100) (b / 10000) (b / 100 % 100) (b % 100) hv (by omega) h2 (by omega) m2 (by omega) s2
  generalize Civ.num (a / 10000) (a / 100 % 100) (a % 100) * 86400 + 3600 * (b / 10000) + 60 * (b / 100 % 100) + b % 100 = R at hM ⊢
  have a1 := p1.1
  have a2 : a < 100000000 := by have := p1.2; omega
  have b1 := p2.1
  have b2 : b < 1000000 := by have := p2.2; omega
  have q8 : 8 < s.size := by omega
  have hT := hT q8
  clear hv h2 m2 s2 ha hb hd hd' p1 p2
  have tA : (a : Int).tdiv 10000 = a / 10000 := Int.tdiv_eq_ediv_of_nonneg a1
  have tB : (a : Int).tdiv 100 = a / 100 := Int.tdiv_eq_ediv_of_nonneg a1
  have tC : (a / 100 : Int).tmod 100 = a / 100 % 100 := Int.tmod_eq_emod_of_nonneg (by omega)
  have tD : (a : Int).tmod 100 = a % 100 := Int.tmod_eq_emod_of_nonneg a1
  have sA : (b : Int).tdiv 10000 = b / 10000 := Int.tdiv_eq_ediv_of_nonneg b1
  have sB : (b : Int).tdiv 100 = b / 100 := Int.tdiv_eq_ediv_of_nonneg b1
  have sC : (b / 100 : Int).tmod 100 = b / 100 % 100 := Int.tmod_eq_emod_of_nonneg (by omega)
  have sD : (b : Int).tmod 100 = b % 100 := Int.tmod_eq_emod_of_nonneg b1
  go_enter Try.func30, Try.ntmps30
  go_wp2_with fail
  refine (N1 _).mono ?_
  rintro e w3 ⟨rfl, rfl⟩
  go_wp2_with fail
  refine (N2 _).mono ?_
  rintro e w3 ⟨rfl, rfl⟩
  go_wp2_with fail
  refine (hM _).mono ?_
  rintro e w3 ⟨rfl, rfl⟩
  go_wp2_with fail
  go_ret2
  exact ⟨rfl, rfl⟩
theorem parse_a (w : World) : Calls Try.prog 30 #[.string { data := #[50, 48, 50, 54, 48, 51, 50, 57, 84, 48, 49, 48, 48, 48, 48] }] w fun e w' => e = .returned (.tuple #[.int .i64 1774746000, .int .i64 0]) ∧ w = w' := by
  have h := parse_full { data := #[50, 48, 50, 54, 48, 51, 50, 57, 84, 48, 49, 48, 48, 48, 48] } rfl (fun _ => rfl) (by unfold IsDig; decide) (by unfold IsDig; decide) 20260329 10000 (by decide) (by decide) (by unfold Civ.valid; decide) (by decide) (by decide) (by decide) w
  exact h
theorem parse_b (w : World) : Calls Try.prog 30 #[.string { data := #[50, 48, 50, 54, 48, 51, 50, 57, 84, 48, 50, 51, 48, 48, 48] }] w fun e w' => e = .returned (.tuple #[.int .i64 1774751400, .int .i64 0]) ∧ w = w' := by
  have h := parse_full { data := #[50, 48, 50, 54, 48, 51, 50, 57, 84, 48, 50, 51, 48, 48, 48] } rfl (fun _ => rfl) (by unfold IsDig; decide) (by unfold IsDig; decide) 20260329 23000 (by decide) (by decide) (by unfold Civ.valid; decide) (by decide) (by decide) (by decide) w
  exact h
theorem parse_c (w : World) : Calls Try.prog 30 #[.string { data := #[50, 48, 50, 54, 49, 48, 50, 53, 84, 48, 50, 51, 48, 48, 48] }] w fun e w' => e = .returned (.tuple #[.int .i64 1792895400, .int .i64 0]) ∧ w = w' := by
  have h := parse_full { data := #[50, 48, 50, 54, 49, 48, 50, 53, 84, 48, 50, 51, 48, 48, 48] } rfl (fun _ => rfl) (by unfold IsDig; decide) (by unfold IsDig; decide) 20261025 23000 (by decide) (by decide) (by unfold Civ.valid; decide) (by decide) (by decide) (by decide) w
  exact h
end Go.Proofs.Ytbnchbcdgffkaaa
