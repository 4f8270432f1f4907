/- vokref1.Text. -/
import Derived.Test.YtkeeocidinnnnaaDoorRdig
import Derived.Test.YtkeeocidinnnnaaDoorMakes
namespace Go.Proofs.YtkeeocidinnnnaaDoor
open Go.RowKit
set_option linter.unusedVariables false
theorem rtext_no (t : Int) (h : ¬ MayT t) (w : World) : Calls Tryd.prog 15 #[.int .i64 t] w fun e w' => e = .returned (.tuple #[.string ⟨#[]⟩, .int .i64 1]) ∧ w = w' := by
  have hMy := rmay_any t
  rw [decide_eq_false h] at hMy
  go_enter Tryd.func15, Tryd.ntmps15
  go_wp2_with fail
  refine (hMy _).mono ?_
  rintro e w9 ⟨rfl, rfl⟩
  go_wp2_with fail
  go_ret2
  exact ⟨rfl, rfl⟩
set_option maxRecDepth 100000 in
set_option maxHeartbeats 4000000 in
theorem rtext_yes (t : Int) (h : MayT t) (w : World) :
    Calls Tryd.prog 15 #[.int .i64 t] w fun e w' => ∃ y m d, Civ.valid y m d ∧ Civ.num y m d = t / 86400 ∧ e = .returned (.tuple #[.string ⟨(txt y m d (t % 86400)).toArray⟩, .int .i64 0]) ∧ Below w.heap.size w w' := by
  have hba := ba_app
  have hMy := rmay_any t
  rw [decide_eq_true h] at hMy
  obtain ⟨t1, t2⟩ := h
  have hDy := rday_any t (by omega) (by omega)
  have hDt := rdate_any (t / 86400) (by omega) (by omega)
  have s1 : 0 ≤ t % 86400 := by omega
  have s2 : t % 86400 < 86400 := by omega
  generalize t % 86400 = s at *
  have f1 : Int.tdiv s 3600 = s / 3600 := Int.tdiv_eq_ediv_of_nonneg (by omega)
  have f2 : Int.tdiv s 60 = s / 60 := Int.tdiv_eq_ediv_of_nonneg (by omega)
  have f3 : Int.tmod (s / 60) 60 = s / 60 % 60 := Int.tmod_eq_emod_of_nonneg (by omega)
  have f4 : Int.tmod s 60 = s % 60 := Int.tmod_eq_emod_of_nonneg (by omega)
  have r1 : 0 ≤ s / 3600 := by omega
  have r2 : s / 3600 ≤ 23 := by omega
  have r3 : 0 ≤ s / 60 % 60 := by omega
  have r4 : s / 60 % 60 ≤ 59 := by omega
  have r5 : 0 ≤ s % 60 := by omega
  have r6 : s % 60 ≤ 59 := by omega
  go_enter Tryd.func15, Tryd.ntmps15
  go_wp2_with fail
  refine (hMy _).mono ?_
  rintro e w9 ⟨rfl, rfl⟩
  go_wp2_with fail
  refine (hDy _).mono ?_
  rintro e w9 ⟨rfl, rfl⟩
  go_wp2_with fail
  refine (hDt _).mono ?_
  rintro e w9 ⟨y, m, d, v, nn, rfl, rfl⟩
  have v' := v
  obtain ⟨m1, m2⟩ := Civ.valid_m v
  have l1 := Civ.len_pos y m m1 m2
  obtain ⟨y1, y2, d1, d2⟩ := v'
  have eT : txt y m d s = fx 4 y.toNat ++ fx 2 m.toNat ++ fx 2 d.toNat ++ [84] ++ fx 2 (s / 3600).toNat ++ fx 2 (s / 60 % 60).toNat ++ fx 2 (s % 60).toNat := by
    rw [txt_fx (by omega) (by omega) (by omega) (by omega) (by omega) (by omega) s1 s2]
    rfl
  have b := Below.refl w.heap.size w
  have hA := rdigits_any y 4 4 rfl (by omega) (by omega) (by omega)
  have lA := fx_len 4 y.toNat
  generalize fx 4 y.toNat = A at hA lA eT
  have hB := rdigits_any m 2 2 rfl (by omega) (by omega) (by omega)
  have lB := fx_len 2 m.toNat
  generalize fx 2 m.toNat = B at hB lB eT
  have hC := rdigits_any d 2 2 rfl (by omega) (by omega) (by omega)
  have lC := fx_len 2 d.toNat
  generalize fx 2 d.toNat = C at hC lC eT
  have hD := rdigits_any (s / 3600) 2 2 rfl (by omega) (by omega) (by omega)
  have lD := fx_len 2 (s / 3600).toNat
  generalize fx 2 (s / 3600).toNat = D at hD lD eT
  have hE := rdigits_any (s / 60 % 60) 2 2 rfl (by omega) (by omega) (by omega)
  have lE := fx_len 2 (s / 60 % 60).toNat
  generalize fx 2 (s / 60 % 60).toNat = E at hE lE eT
  have hF := rdigits_any (s % 60) 2 2 rfl (by omega) (by omega) (by omega)
  have lF := fx_len 2 (s % 60).toNat
  generalize fx 2 (s % 60).toNat = F at hF lF eT
  replace eT := Lib.hid eT
  have nn := Lib.hid nn
  clear hDt hDy hMy
  clear l1 y1 y2 d1 d2 m1 m2
  go_wp2_with fail
  refine (hA _).mono ?_
  rintro e wz ⟨rfl, bb⟩
  replace b := b.trans (bb.mono b.size)
  clear bb
  go_wp2_with fail
  refine (hB _).mono ?_
  rintro e wz ⟨rfl, bb⟩
  replace b := b.trans (bb.mono b.size)
  clear bb
  go_wp2_with fail
  refine (hC _).mono ?_
  rintro e wz ⟨rfl, bb⟩
  replace b := b.trans (bb.mono b.size)
  clear bb
  go_wp2_with fail
  refine (hD _).mono ?_
  rintro e wz ⟨rfl, bb⟩
  replace b := b.trans (bb.mono b.size)
  clear bb
  go_wp2_with fail
  refine (hE _).mono ?_
  rintro e wz ⟨rfl, bb⟩
  replace b := b.trans (bb.mono b.size)
  clear bb
  go_wp2_with fail
  refine (hF _).mono ?_
  rintro e wz ⟨rfl, bb⟩
  replace b := b.trans (bb.mono b.size)
  clear bb
  go_wp2_with fail
  go_ret2
  refine ⟨y, m, d, v, nn.out, ?_, b⟩
  rw [eT.out]
  simp
end Go.Proofs.YtkeeocidinnnnaaDoor
