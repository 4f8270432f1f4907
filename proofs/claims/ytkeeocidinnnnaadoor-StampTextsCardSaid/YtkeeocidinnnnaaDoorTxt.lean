/- stamp.Text. -/
import Derived.Test.YtkeeocidinnnnaaDoorDig
import Derived.Test.YtkeeocidinnnnaaDoorSfn
namespace Go.Proofs.YtkeeocidinnnnaaDoor
open Go.RowKit
set_option linter.unusedVariables false
/-- A moment's text, of its date and its second. -/
def txt (y m d s : Int) : List UInt8 := dgs y 4 ++ dgs m 2 ++ dgs d 2 ++ [84] ++ dgs (s / 3600) 2 ++ dgs (s / 60 % 60) 2 ++ dgs (s % 60) 2
theorem dgs_len (n : Int) (k : Nat) (h0 : 0 ≤ n) (h1 : n ≤ 1000000000) (hk : k ≤ 4) : (dgs n k).length ≤ 24 := by
  unfold dgs
  have := itoa_len n h0 (by omega)
  rw [List.length_append, Lib.repeatL_length]
  simp only [List.length_cons, List.length_nil]
  omega
set_option maxRecDepth 100000 in
set_option maxHeartbeats 4000000 in
theorem text_yes (t : Int) (h : MayT t) (w : World) (ht : Tab w) :
    Calls Tryd.prog 14 #[.int .i64 t] w fun e w' => ∃ y m d, Civ.valid y m d ∧ Civ.num y m d = t / 86400 ∧ e = .returned (.tuple #[.string ⟨(txt y m d (t % 86400)).toArray⟩, .int .i64 0]) ∧ Below w.heap.size w w' := by
  obtain ⟨t1, t2⟩ := h
  have hDy := sday_any t (by omega) (by omega)
  have hDt := date_any (t / 86400) (by omega) (by omega)
  have s1 : 0 ≤ t % 86400 := by omega
  have s2 : t % 86400 < 86400 := by omega
  generalize t / 86400 = D at *
  generalize t % 86400 = s at *
  have hba := ba_app
  go_enter Tryd.func14, Tryd.ntmps14
  go_wp2_with fail
  refine (hDy _).mono ?_
  rintro e w1 ⟨rfl, rfl⟩
  go_wp2_with fail
  refine (hDt _).mono ?_
  rintro e w1 ⟨y, m, d, hv, hn, rfl, rfl⟩
  have hvh := Lib.hid hv
  obtain ⟨m1, m2⟩ := Civ.valid_m hv
  obtain ⟨y1, y2, d1, d2⟩ := hv
  have lb := Civ.len_pos y m m1 m2
  have d3 : d ≤ 31 := by omega
  clear d2 lb
  have hn := Lib.hid hn
  go_wp2_with fail
  refine (digits_any (y) 4 (by omega) (by omega) (by omega) _ ht).mono ?_
  rintro e w2 ⟨rfl, bb⟩
  replace ht := ht.below bb
  have b := bb
  clear bb
  have l1 := dgs_len (y) 4 (by omega) (by omega) (by omega)
  obtain ⟨D1, hD1⟩ : ∃ l, l = dgs (y) 4 := ⟨_, rfl⟩
  rw [← hD1] at l1 ⊢
  replace hD1 := Lib.hid hD1
  go_wp2_with fail
  refine (digits_any (m) 2 (by omega) (by omega) (by omega) _ ht).mono ?_
  rintro e w2 ⟨rfl, bb⟩
  replace ht := ht.below bb
  replace b := b.trans (bb.mono b.size)
  clear bb
  have l2 := dgs_len (m) 2 (by omega) (by omega) (by omega)
  obtain ⟨D2, hD2⟩ : ∃ l, l = dgs (m) 2 := ⟨_, rfl⟩
  rw [← hD2] at l2 ⊢
  replace hD2 := Lib.hid hD2
  have hno : ¬ (9223372036854775807 < D1.length + D2.length) := by omega
  go_wp2_with fail
  obtain ⟨E2, hE2⟩ : ∃ l, l = D1 ++ D2 := ⟨_, rfl⟩
  have lE2 : E2.length ≤ 100 := by rw [hE2]; simp; omega
  rw [← hE2]
  replace hE2 := Lib.hid hE2
  clear hno
  refine (digits_any (d) 2 (by omega) (by omega) (by omega) _ ht).mono ?_
  rintro e w2 ⟨rfl, bb⟩
  replace ht := ht.below bb
  replace b := b.trans (bb.mono b.size)
  clear bb
  have l3 := dgs_len (d) 2 (by omega) (by omega) (by omega)
  obtain ⟨D3, hD3⟩ : ∃ l, l = dgs (d) 2 := ⟨_, rfl⟩
  rw [← hD3] at l3 ⊢
  replace hD3 := Lib.hid hD3
  have hno : ¬ (9223372036854775807 < E2.length + D3.length) := by omega
  have hno2 : ¬ (9223372036854775807 < E2.length + D3.length + 1) := by omega
  go_wp2_with fail
  obtain ⟨E4, hE4⟩ : ∃ l, l = E2 ++ (D3 ++ [84]) := ⟨_, rfl⟩
  have lE4 : E4.length ≤ 130 := by rw [hE4]; simp; omega
  rw [← hE4]
  replace hE4 := Lib.hid hE4
  clear hno hno2
  refine (digits_any (s / 3600) 2 (by omega) (by omega) (by omega) _ ht).mono ?_
  rintro e w2 ⟨rfl, bb⟩
  replace ht := ht.below bb
  replace b := b.trans (bb.mono b.size)
  clear bb
  have l4 := dgs_len (s / 3600) 2 (by omega) (by omega) (by omega)
  obtain ⟨D4, hD4⟩ : ∃ l, l = dgs (s / 3600) 2 := ⟨_, rfl⟩
  rw [← hD4] at l4 ⊢
  replace hD4 := Lib.hid hD4
  have hno : ¬ (9223372036854775807 < E4.length + D4.length) := by omega
  go_wp2_with fail
  obtain ⟨E5, hE5⟩ : ∃ l, l = E4 ++ D4 := ⟨_, rfl⟩
  have lE5 : E5.length ≤ 160 := by rw [hE5]; simp; omega
  rw [← hE5]
  replace hE5 := Lib.hid hE5
  clear hno
  refine (digits_any (s / 60 % 60) 2 (by omega) (by omega) (by omega) _ ht).mono ?_
  rintro e w2 ⟨rfl, bb⟩
  replace ht := ht.below bb
  replace b := b.trans (bb.mono b.size)
  clear bb
  have l5 := dgs_len (s / 60 % 60) 2 (by omega) (by omega) (by omega)
  obtain ⟨D5, hD5⟩ : ∃ l, l = dgs (s / 60 % 60) 2 := ⟨_, rfl⟩
  rw [← hD5] at l5 ⊢
  replace hD5 := Lib.hid hD5
  have hno : ¬ (9223372036854775807 < E5.length + D5.length) := by omega
  go_wp2_with fail
  obtain ⟨E6, hE6⟩ : ∃ l, l = E5 ++ D5 := ⟨_, rfl⟩
  have lE6 : E6.length ≤ 190 := by rw [hE6]; simp; omega
  rw [← hE6]
  replace hE6 := Lib.hid hE6
  clear hno
  refine (digits_any (s % 60) 2 (by omega) (by omega) (by omega) _ ht).mono ?_
  rintro e w2 ⟨rfl, bb⟩
  replace ht := ht.below bb
  replace b := b.trans (bb.mono b.size)
  clear bb
  have l6 := dgs_len (s % 60) 2 (by omega) (by omega) (by omega)
  obtain ⟨D6, hD6⟩ : ∃ l, l = dgs (s % 60) 2 := ⟨_, rfl⟩
  rw [← hD6] at l6 ⊢
  replace hD6 := Lib.hid hD6
  have hno : ¬ (9223372036854775807 < E6.length + D6.length) := by omega
  go_wp2_with fail
  go_ret2
  refine ⟨y, m, d, hvh.out, hn.out, ?_, b⟩
  have e : E6 ++ D6 = txt y m d s := by
    unfold txt
    rw [← hD1.out, ← hD2.out, ← hD3.out, ← hD4.out, ← hD5.out, ← hD6.out, hE6.out, hE5.out, hE4.out, hE2.out]
    simp only [List.append_assoc]
  rw [← e]
  rfl
theorem text_no (t : Int) (h : ¬ MayT t) (h1 : -9223372036854775808 ≤ t) (h2 : t ≤ 9223372036854775807) (w : World) :
    Calls Tryd.prog 14 #[.int .i64 t] w fun e w' => e = .returned (.tuple #[.string ⟨#[]⟩, .int .i64 1]) ∧ w = w' := by
  have hDy := sday_any t h1 h2
  have hDt := date_no (t / 86400) (fun q => h ⟨by omega, by omega⟩)
  clear h
  generalize t / 86400 = D at *
  generalize t % 86400 = s at *
  go_enter Tryd.func14, Tryd.ntmps14
  go_wp2_with fail
  refine (hDy _).mono ?_
  rintro e w1 ⟨rfl, rfl⟩
  go_wp2_with fail
  refine (hDt _).mono ?_
  rintro e w1 ⟨rfl, rfl⟩
  go_wp2_with fail
  go_ret2
  exact ⟨rfl, rfl⟩
end Go.Proofs.YtkeeocidinnnnaaDoor
