/- stamp.Parse of digits; stamp.DurParse of one text; voklaw2.first. -/
import Derived.Test.YtkeeocidinnnnaaDoorNum
import Derived.Test.YtkeeocidinnnnaaDoorDur
namespace Go.Proofs.YtkeeocidinnnnaaDoor
open Go.RowKit
set_option linter.unusedVariables false
set_option maxHeartbeats 4000000 in
theorem parse_full (s : ByteArray) (hs : s.size = 15) (hT : ∀ h : 8 < s.size, s[8].toNat = 84) (hd : ∀ k, k < 8 → IsDig (s.extract 0 8) k) (hd' : ∀ k, k < 6 → IsDig (s.extract 9 15) k) (a b : Int) (ha : pre (s.extract 0 8) 8 = a) (hb : pre (s.extract 9 15) 6 = b) (w : World) :
    Calls Tryd.prog 16 #[.string s] w fun e w' => e = .returned (.tuple #[.int .i64 (mkV (a / 10000) (a / 100 % 100) (a % 100) (b / 10000) (b / 100 % 100) (b % 100)).1, .int .i64 (mkV (a / 10000) (a / 100 % 100) (a % 100) (b / 10000) (b / 100 % 100) (b % 100)).2]) ∧ w = w' := by
  have z1 : (s.extract 0 8).size = 8 := by rw [ByteArray.size_extract]; omega
  have z2 : (s.extract 9 15).size = 6 := by rw [ByteArray.size_extract]; omega
  have N1 := number_yes (s.extract 0 8) (by omega) (by rw [z1]; exact hd)
  have N2 := number_yes (s.extract 9 15) (by omega) (by rw [z2]; exact hd')
  rw [z1, ha] at N1
  rw [z2, hb] at N2
  have p1 := pre_bd 8 hd
  have p2 := pre_bd 6 hd'
  rw [ha] at p1
  rw [hb] at p2
  have hM := make_any (a / 10000) (a / 100 % 100) (a % 100) (b / 10000) (b / 100 % 100) (b % 100)
  generalize mkV (a / 10000) (a / 100 % 100) (a % 100) (b / 10000) (b / 100 % 100) (b % 100) = R at hM ⊢
  have a1 := p1.1
  have a2 : a < 100000000 := by have := p1.2; omega
  have b1 := p2.1
  have b2 : b < 1000000 := by have := p2.2; omega
  have q8 : 8 < s.size := by omega
  have hT := hT q8
  clear ha hb hd hd' p1 p2
  have tA : (a : Int).tdiv 10000 = a / 10000 := Int.tdiv_eq_ediv_of_nonneg a1
  have tB : (a : Int).tdiv 100 = a / 100 := Int.tdiv_eq_ediv_of_nonneg a1
  have tC : (a / 100 : Int).tmod 100 = a / 100 % 100 := Int.tmod_eq_emod_of_nonneg (by omega)
  have tD : (a : Int).tmod 100 = a % 100 := Int.tmod_eq_emod_of_nonneg a1
  have sA : (b : Int).tdiv 10000 = b / 10000 := Int.tdiv_eq_ediv_of_nonneg b1
  have sB : (b : Int).tdiv 100 = b / 100 := Int.tdiv_eq_ediv_of_nonneg b1
  have sC : (b / 100 : Int).tmod 100 = b / 100 % 100 := Int.tmod_eq_emod_of_nonneg (by omega)
  have sD : (b : Int).tmod 100 = b % 100 := Int.tmod_eq_emod_of_nonneg b1
  go_enter Tryd.func16, Tryd.ntmps16
  go_wp2_with fail
  refine (N1 _).mono ?_
  rintro e w3 ⟨rfl, rfl⟩
  go_wp2_with fail
  refine (N2 _).mono ?_
  rintro e w3 ⟨rfl, rfl⟩
  go_wp2_with fail
  refine (hM _).mono ?_
  rintro e w3 ⟨rfl, rfl⟩
  go_wp2_with fail
  go_ret2
  exact ⟨rfl, rfl⟩
theorem parse_x (w : World) : Calls Tryd.prog 16 #[.string { data := #[50, 48, 50, 54, 48, 50, 51, 48, 84, 48, 48, 48, 48, 48, 48] }] w fun e w' => e = .returned (.tuple #[.int .i64 0, .int .i64 1]) ∧ w = w' := by
  have h := parse_full { data := #[50, 48, 50, 54, 48, 50, 51, 48, 84, 48, 48, 48, 48, 48, 48] } rfl (fun _ => rfl) (by unfold IsDig; decide) (by unfold IsDig; decide) 20260230 0 (by decide) (by decide) w
  rw [mkV_no (by unfold Civ.valid; decide)] at h
  exact h
theorem dur3600 : dur 3600 = [80, 84, 49, 72] := by decide +kernel
set_option maxHeartbeats 4000000 in
theorem durparse_x (w : World) (ht : Tab w) : Calls Tryd.prog 20 #[.string { data := #[80, 84, 54, 48, 77] }] w fun e w' => e = .returned (.tuple #[.int .i64 0, .int .i64 4]) ∧ Below w.heap.size w w' := by
  have hN := number_yes (ByteArray.extract { data := #[80, 84, 54, 48, 77] } 2 4) (by decide) (by unfold IsDig; decide)
  rw [show pre (ByteArray.extract { data := #[80, 84, 54, 48, 77] } 2 4) (ByteArray.extract { data := #[80, 84, 54, 48, 77] } 2 4).size = 60 by decide] at hN
  have hD := dur_yes 3600 (by omega) (by omega)
  rw [dur3600] at hD
  go_enter Tryd.func20, Tryd.ntmps20
  go_wp2_with fail
  go_loopw [4, 5, 6, 7, 8, 9, 16] (fun tv av iv uv nv bv kv wr => w = wr ∧ ((tv = .int .i64 0 ∧ av = .int .i64 0 ∧ kv = .int .i64 0) ∨ (tv = .int .i64 0 ∧ av = .int .i64 1 ∧ kv = .int .i64 1) ∨ (tv = .int .i64 0 ∧ av = .int .i64 2 ∧ kv = .int .i64 2) ∨ (tv = .int .i64 0 ∧ av = .int .i64 2 ∧ kv = .int .i64 3) ∨ (tv = .int .i64 0 ∧ av = .int .i64 2 ∧ kv = .int .i64 4) ∨ (tv = .int .i64 3600 ∧ av = .int .i64 5 ∧ kv = .int .i64 5))) (fun tv av iv uv nv bv kv _ => 5 - (intOf kv).toNat)
  case atStart => exact ⟨rfl, .inl ⟨rfl, rfl, rfl⟩⟩
  case round =>
    obtain ⟨rfl, ⟨rfl, rfl, rfl⟩ | ⟨rfl, rfl, rfl⟩ | ⟨rfl, rfl, rfl⟩ | ⟨rfl, rfl, rfl⟩ | ⟨rfl, rfl, rfl⟩ | ⟨rfl, rfl, rfl⟩⟩ := hrel
    · go_wp2_with fail
      go_roundw
      case rel => exact ⟨trivial, .inr (.inl ⟨rfl, rfl, rfl⟩)⟩
      case measure => simp [intOf]
    · go_wp2_with fail
      go_roundw
      case rel => exact ⟨trivial, .inr (.inr (.inl ⟨rfl, rfl, rfl⟩))⟩
      case measure => simp [intOf]
    · go_wp2_with fail
      go_roundw
      case rel => exact ⟨trivial, .inr (.inr (.inr (.inl ⟨rfl, rfl, rfl⟩)))⟩
      case measure => simp [intOf]
    · go_wp2_with fail
      go_roundw
      case rel => exact ⟨trivial, .inr (.inr (.inr (.inr (.inl ⟨rfl, rfl, rfl⟩))))⟩
      case measure => simp [intOf]
    · go_wp2_with fail
      refine (hN _).mono ?_
      rintro e w3 ⟨rfl, rfl⟩
      go_wp2_with fail
      go_roundw
      case rel => exact ⟨trivial, .inr (.inr (.inr (.inr (.inr ⟨rfl, rfl, rfl⟩))))⟩
      case measure => simp [intOf]
    · go_wp2_with fail
      refine (hD _ ht).mono ?_
      rintro e w3 ⟨rfl, b⟩
      go_wp2_with fail
      go_ret2
      exact ⟨rfl, b⟩
end Go.Proofs.YtkeeocidinnnnaaDoor
