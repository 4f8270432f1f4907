/- vokref1.near. -/
import Derived.Test.YtbnchbcdgffkaaaSt
import Derived.Test.YtbnchbcdgffkaaaRnth
import Derived.Deep.RegionHeld3
import Derived.Deep.DrawnRows
namespace Go.Proofs.Ytbnchbcdgffkaaa
open Go.RowKit
set_option linter.unusedVariables false
theorem yearL_nil {fr y : Int} : yearL [] fr y = [] := by unfold yearL; split <;> rfl
theorem acc_nil {L : List Sh} {fr y : Int} (j : Nat) : acc L [] fr y j = L := by
  induction j with
  | zero => rfl
  | succ j ih => simp only [acc]; rw [ih, yearL_nil, List.append_nil]
theorem yearL_out {Y : List Yr} {fr y : Int} (h : y < fr ∨ 9999 < y) : yearL Y fr y = [] := by unfold yearL; rw [if_pos h]
theorem yearL_in {Y : List Yr} {fr y : Int} (h : fr ≤ y) (h' : y ≤ 9999) : yearL Y fr y = Y.map (yearAt y) := by unfold yearL; rw [if_neg (by omega)]
theorem acc_next {L : List Sh} {Y : List Yr} {fr u y k0 : Int} {J : Nat} (h : Ok L Y fr) (f1 : 1 ≤ fr) (f2 : fr ≤ 9999) (y1 : 1 ≤ y) (y2 : y ≤ 9999) (u1 : Civ.fst y ≤ u / 86400) (u2 : u / 86400 < Civ.fst (y + 1))
    (hk : k0 = if fr < y - 1 then y - 1 else fr) (hJ : k0 + (J : Int) = (if 9999 < (if fr < y then y else fr) + 1 then 9999 else (if fr < y then y else fr) + 1) + 1) : Next (IsShift L Y fr) u (acc L Y fr k0 J) := by
  have hN := near_next h y1 y2 u1 u2
  unfold nearL at hN
  by_cases q : y < fr
  · rw [if_pos q] at hN
    rw [if_neg (by omega)] at hk
    rw [if_neg (show ¬ fr < y by omega)] at hJ
    subst hk
    have hone : acc L Y k0 k0 1 = L ++ yearL Y k0 k0 := by simp only [acc]; rw [show k0 + ((0 : Nat) : Int) = k0 by omega]
    rw [← hone] at hN
    by_cases q2 : 9999 < k0 + 1
    · rw [if_pos q2] at hJ
      obtain rfl : J = 1 := by omega
      exact hN
    · rw [if_neg q2] at hJ
      obtain rfl : J = 2 := by omega
      refine ⟨acc_up h k0 2, fun s hs => ?_, fun t ht hu => ?_, fun t ht hu => ?_⟩
      · rcases acc_mem.mp hs with hs | ⟨i, x, _, h1, h2, hx, rfl⟩
        · exact .inl hs
        · exact .inr ⟨_, x, h1, h2, hx, rfl⟩
      · obtain ⟨s, h1, h2, h3⟩ := hN.lo t ht hu
        exact ⟨s, List.mem_append_left _ h1, h2, h3⟩
      · obtain ⟨s, h1, h2, h3⟩ := hN.hi t ht hu
        exact ⟨s, List.mem_append_left _ h1, h2, h3⟩
  · rw [if_neg q] at hN
    have e3 : acc L Y fr (y - 1) 3 = ((L ++ yearL Y fr (y - 1)) ++ yearL Y fr y) ++ yearL Y fr (y + 1) := by
      simp only [acc]
      rw [show y - 1 + ((0 : Nat) : Int) = y - 1 by omega, show y - 1 + ((1 : Nat) : Int) = y by omega, show y - 1 + ((2 : Nat) : Int) = y + 1 by omega]
    rw [e3] at hN
    by_cases q1 : fr < y - 1
    · rw [if_pos q1] at hk
      rw [if_pos (show fr < y by omega)] at hJ
      subst hk
      by_cases q2 : 9999 < y + 1
      · rw [if_pos q2] at hJ
        obtain rfl : J = 2 := by omega
        rw [yearL_out (y := y + 1) (.inr q2), List.append_nil] at hN
        simp only [acc]
        rw [show y - 1 + ((0 : Nat) : Int) = y - 1 by omega, show y - 1 + ((1 : Nat) : Int) = y by omega]
        exact hN
      · rw [if_neg q2] at hJ
        obtain rfl : J = 3 := by omega
        rw [e3]
        exact hN
    · rw [if_neg q1] at hk
      subst hk
      by_cases q3 : k0 = y
      · subst q3
        rw [if_neg (show ¬ k0 < k0 by omega)] at hJ
        rw [yearL_out (y := k0 - 1) (.inl (by omega)), List.append_nil] at hN
        by_cases q2 : 9999 < k0 + 1
        · rw [if_pos q2] at hJ
          obtain rfl : J = 1 := by omega
          rw [yearL_out (y := k0 + 1) (.inr q2), List.append_nil] at hN
          simp only [acc]
          rw [show k0 + ((0 : Nat) : Int) = k0 by omega]
          exact hN
        · rw [if_neg q2] at hJ
          obtain rfl : J = 2 := by omega
          simp only [acc]
          rw [show k0 + ((0 : Nat) : Int) = k0 by omega, show k0 + ((1 : Nat) : Int) = k0 + 1 by omega]
          exact hN
      · obtain rfl : y = k0 + 1 := by omega
        rw [if_pos (show k0 < k0 + 1 by omega)] at hJ
        rw [show k0 + 1 - 1 = k0 by omega] at hN
        by_cases q2 : 9999 < k0 + 1 + 1
        · rw [if_pos q2] at hJ
          obtain rfl : J = 2 := by omega
          rw [yearL_out (y := k0 + 1 + 1) (.inr q2), List.append_nil] at hN
          simp only [acc]
          rw [show k0 + ((0 : Nat) : Int) = k0 by omega, show k0 + ((1 : Nat) : Int) = k0 + 1 by omega]
          exact hN
        · rw [if_neg q2] at hJ
          obtain rfl : J = 3 := by omega
          simp only [acc]
          rw [show k0 + ((0 : Nat) : Int) = k0 by omega, show k0 + ((1 : Nat) : Int) = k0 + 1 by omega, show k0 + ((2 : Nat) : Int) = k0 + 1 + 1 by omega]
          exact hN
theorem yr_get {w : World} {B : Nat} {ad : Addr} {Y : List Yr} (h : YrAt w B (some ad) Y) (k : Nat) (hk : k < Y.length) : w.cell? (ad.add (k * 5)) = some (.int .i64 Y[k].m) ∧ w.cell? ⟨(ad.add (k * 5)).block, (ad.add (k * 5)).off + 1, none⟩ = some (.int .i64 Y[k].n) ∧ w.cell? ⟨(ad.add (k * 5)).block, (ad.add (k * 5)).off + 2, none⟩ = some (.int .i64 Y[k].w) ∧ w.cell? ⟨(ad.add (k * 5)).block, (ad.add (k * 5)).off + 3, none⟩ = some (.int .i64 Y[k].s) ∧ w.cell? ⟨(ad.add (k * 5)).block, (ad.add (k * 5)).off + 4, none⟩ = some (.int .i64 Y[k].o) := by
  obtain ⟨ad', e, _, h⟩ := h k hk
  injection e with e
  subst e
  exact h
theorem St.grown {w0 w w' : World} {p : Nat} {bs : Int} {A : Option Addr} {c : Nat} {A' : Option Addr} {c' : Nat} {fr : Int} {L : List Sh} {Y : List Yr} {e : TypeId} {size : Nat} {v : Value} {n : Nat} {xs : List Value} (s : St w0 w p bs A c A' c' fr L Y) (g : w.grownBy w' v.ownBlock) (O : w.ownsRow (w0.heap.size + 1) e size v n xs) (hp : p = w0.heap.size) : St w0 w' p bs A c A' c' fr L Y := by
  have n := fun k hk => (World.ownsRow.lt O k hk).1
  have b : Below w0.heap.size w0 w' := s.b.grown g s.le (fun k hk => Nat.le_of_succ_le (n k hk))
  have hb := g.block p s.x.lt (fun h => by have := n _ h.symm; omega)
  have hc : ∀ i, w'.cell? ⟨p, i, none⟩ = w.cell? ⟨p, i, none⟩ := fun i => World.cell?_of_block hb
  have q : Below w0.heap.size w w' := (Below.refl _ _).grown g s.le (fun k hk => Nat.le_of_succ_le (n k hk))
  exact ⟨b, s.z.below q, ⟨Nat.lt_of_lt_of_le s.x.lt g.size, (hc 0).trans s.x.c0, (hc 1).trans s.x.c1, (hc 2).trans s.x.c2, (hc 3).trans s.x.c3⟩⟩
set_option maxRecDepth 100000 in
set_option maxHeartbeats 4000000 in
theorem rnear_none (bs : Int) (A : Option Addr) (c : Nat) (A' : Option Addr) (c' : Nat) (fr u : Int) (L : List Sh) (w : World) (hM : MayZ bs L [] fr) (hu : MayT u) (hz : ZAt w w.heap.size A A' L []) :
    Calls Try.prog 34 #[zv bs A L.length c A' 0 c' fr, .int .i64 u] w fun e w' => ∃ A1 c1, e = .returned (.slice A1 L.length c1) ∧ OwnS w' w.heap.size (.slice A1 L.length c1) L ∧ Below w.heap.size w w' := by
  obtain ⟨i0, hi, hz0, hz1, hz2⟩ := info_parts sh_row
  have lL := hM.sh.few
  have hown := World.ownsRow_made (w.alloc (zo bs A L.length c A' 0 c' fr)) (base := w.heap.size + 1) (e := 29) (size := 2) #[] 0 (by simp) (by simp [maxLen]) rfl
  rw [show (w.alloc (zo bs A L.length c A' 0 c' fr)).heap.size = w.heap.size + 1 by simp] at hown
  have s : St w (w.alloc (zo bs A L.length c A' 0 c' fr)) w.heap.size bs A c A' c' fr L [] := St.new_ hz
  have s3 := s.alloc (.cells #[] 29)
  have hrd := s3.z.s.reads
  have k3 : Below (w.heap.size + 1) (w.alloc (zo bs A L.length c A' 0 c' fr)) ((w.alloc (zo bs A L.length c A' 0 c' fr)).alloc (.cells #[] 29)) := (Below.refl _ _).alloc (by simp) _
  go_enter Try.func34, Try.ntmps34
  go_wp2_with (at_builtin; go_loud (
      refine wpList_append_any _ rfl (.tmp 14) (.tmp 16) _ rfl (w.heap.size + 1) 29 i0 _ 2 16 Try.underlying22 hi hz0 hz1 hz2 rfl (by omega) _ 0 _ rfl hown _ A L.length c (flat L) rfl hrd (flat_one L) (by simp only [maxLen]; omega) (by omega) (by simp) ?_
      intro v4 w4 o4 g4 at4
      have n4 : ∀ k, Value.ownBlock (.slice (some ⟨w.heap.size + 1, 0, none⟩) 0 0) = some k → w.heap.size + 1 ≤ k := fun k hk => (World.ownsRow.lt hown k hk).1
      have k4 := k3.grown g4 (by simp) n4
      have s4 : St w w4 w.heap.size bs A c A' c' fr L [] := ⟨s3.b.grown g4 s3.b.size (fun k hk => Nat.le_of_succ_le (n4 k hk)), hz.below (s3.b.grown g4 s3.b.size (fun k hk => Nat.le_of_succ_le (n4 k hk))), s.x.below k4 (by simp)⟩
      have ho4 : OwnS w4 (w.heap.size + 1) v4 L := by
        unfold OwnS
        rw [Nat.zero_add, List.nil_append] at o4
        exact o4
      obtain ⟨A4, c4, rfl⟩ := ho4.form
      clear hown o4 g4 at4 k3 k4 n4 hrd s3 s
      obtain ⟨lt, c0, c1, c2, c3⟩ := s4.cells))
  go_wp2_with fail
  go_ret
  exact ⟨A4, c4, rfl, ho4.mono (Nat.le_succ _), s4.b⟩
set_option maxRecDepth 100000 in
set_option maxHeartbeats 8000000 in
theorem rnear_two (bs : Int) (A : Option Addr) (c : Nat) (A' : Option Addr) (c' : Nat) (fr u : Int) (L : List Sh) (Y : List Yr) (w : World) (hM : MayZ bs L Y fr) (hY2 : Y.length = 2) (hu : MayT u) (hz : ZAt w w.heap.size A A' L Y) :
    Calls Try.prog 34 #[zv bs A L.length c A' Y.length c' fr, .int .i64 u] w fun e w' => ∃ A1 c1 N, e = .returned (.slice A1 N.length c1) ∧ OwnS w' w.heap.size (.slice A1 N.length c1) N ∧ Below w.heap.size w w' ∧ N.length ≤ 1000 ∧ Next (IsShift L Y fr) u N := by
  have hYok : ∀ i (h : i < Y.length), YrOk Y[i] := fun i h => (hM.ok.yr (List.getElem_mem h)).1
  obtain ⟨-, f1, f2⟩ := hM.ok.yr (List.getElem_mem (show 0 < Y.length by omega))
  obtain ⟨ay, rfl, -⟩ := hz.y 0 (by omega)
  have y0t : ((Y.length : Int) == 0) = false := by rw [beq_eq_false_iff_ne]; omega
  have hMY := Lib.hid hM.ys
  have hMo := Lib.hid hM.ok
  obtain ⟨u1, u2⟩ := hu
  have d1 : -719162 ≤ u / 86400 := by omega
  have d2 : u / 86400 ≤ 2932896 := by omega
  have hDy := rday_any u (by omega) (by omega)
  have hDt := rdate_any (u / 86400) d1 d2
  obtain ⟨D, hD⟩ : ∃ D, D = u / 86400 := ⟨_, rfl⟩
  rw [← hD] at hDy hDt d1 d2
  replace hD := Lib.hid hD
  generalize u % 86400 = R at hDy
  replace hY2 := Lib.hid hY2
  obtain ⟨i0, hi, hz0, hz1, hz2⟩ := info_parts sh_row
  have lL := hM.sh.few
  have hown := World.ownsRow_made (w.alloc (zo bs A L.length c (some ay) Y.length c' fr)) (base := w.heap.size + 1) (e := 29) (size := 2) #[] 0 (by simp) (by simp [maxLen]) rfl
  rw [show (w.alloc (zo bs A L.length c (some ay) Y.length c' fr)).heap.size = w.heap.size + 1 by simp] at hown
  have s : St w (w.alloc (zo bs A L.length c (some ay) Y.length c' fr)) w.heap.size bs A c (some ay) c' fr L Y := St.new_ hz
  have s3 := s.alloc (.cells #[] 29)
  have hrd := s3.z.s.reads
  have k3 : Below (w.heap.size + 1) (w.alloc (zo bs A L.length c (some ay) Y.length c' fr)) ((w.alloc (zo bs A L.length c (some ay) Y.length c' fr)).alloc (.cells #[] 29)) := (Below.refl _ _).alloc (by simp) _
  go_enter Try.func34, Try.ntmps34
  go_wp2_with (at_builtin; go_loud (
      refine wpList_append_any _ rfl (.tmp 14) (.tmp 16) _ rfl (w.heap.size + 1) 29 i0 _ 2 16 Try.underlying22 hi hz0 hz1 hz2 rfl (by omega) _ 0 _ rfl hown _ A L.length c (flat L) rfl hrd (flat_one L) (by simp only [maxLen]; omega) (by omega) (by simp) ?_
      intro v4 w4 o4 g4 at4
      have n4 : ∀ k, Value.ownBlock (.slice (some ⟨w.heap.size + 1, 0, none⟩) 0 0) = some k → w.heap.size + 1 ≤ k := fun k hk => (World.ownsRow.lt hown k hk).1
      have k4 := k3.grown g4 (by simp) n4
      have s4 : St w w4 w.heap.size bs A c (some ay) c' fr L Y := ⟨s3.b.grown g4 s3.b.size (fun k hk => Nat.le_of_succ_le (n4 k hk)), hz.below (s3.b.grown g4 s3.b.size (fun k hk => Nat.le_of_succ_le (n4 k hk))), s.x.below k4 (by simp)⟩
      have ho4 : OwnS w4 (w.heap.size + 1) v4 L := by
        unfold OwnS
        rw [Nat.zero_add, List.nil_append] at o4
        exact o4
      obtain ⟨A4, c4, rfl⟩ := ho4.form
      clear hown o4 g4 at4 k3 k4 n4 hrd s3 s
      obtain ⟨lt, c0, c1, c2, c3⟩ := s4.cells))
  go_wp2_with fail
  refine (hDy _).mono ?_
  rintro e w9 ⟨rfl, rfl⟩
  go_wp2_with fail
  refine (hDt _).mono ?_
  rintro e w9 ⟨y, m, d, hv, hn, rfl, rfl⟩
  have hin := Lib.hid (hn ▸ Civ.num_in hv)
  obtain ⟨y1, y2, -, -⟩ := hv
  clear hn d1 d2 hDy hDt u1 u2
  obtain ⟨k0, hk0⟩ : ∃ k0, (if fr < y - 1 then y - 1 else fr) = k0 := ⟨_, rfl⟩
  obtain ⟨mx, hmx⟩ : ∃ mx, (if fr < y then y else fr) = mx := ⟨_, rfl⟩
  obtain ⟨tp, htp⟩ : ∃ tp, (if 9999 < mx + 1 then 9999 else mx + 1) = tp := ⟨_, rfl⟩
  have mb : 1 ≤ mx ∧ mx ≤ 9999 ∧ y ≤ mx ∧ fr ≤ mx := by rw [← hmx]; split <;> omega
  obtain ⟨mb1, mb2, mb3, mb4⟩ := mb
  have kb : fr ≤ k0 ∧ k0 ≤ mx ∧ k0 ≤ 9999 := by rw [← hk0]; split <;> omega
  obtain ⟨kb1, kb2, kb3⟩ := kb
  have tb : tp ≤ 9999 ∧ mx ≤ tp ∧ k0 ≤ tp ∧ tp ≤ k0 + 4 := by
    rw [← htp]
    have : mx ≤ k0 + 2 := by rw [← hmx, ← hk0]; split <;> split <;> omega
    split <;> omega
  obtain ⟨tb1, tb2, tb3, tb4⟩ := tb
  have hfin : ∀ J : Nat, k0 + (J : Int) = tp + 1 → Next (IsShift L Y fr) u (acc L Y fr k0 J) := fun J hJ => by
    refine acc_next (y := y) hMo.out f1 f2 y1 y2 (by rw [← hD.out]; exact hin.out.1) (by rw [← hD.out]; exact hin.out.2) hk0.symm ?_
    rw [hmx, htp]
    exact hJ
  have hfin := Lib.hid hfin
  clear hin
  go_wp2_with fail
  clear lt c0 c1 c2 c3
  go_loopw [5, 12, 13] (fun ov kv iv wr => ∃ (j : Nat) (A1 : Option Addr) (c1 : Nat), ov = .slice A1 (acc L Y fr k0 j).length c1 ∧ kv = .int .i64 (k0 + (j : Int)) ∧ k0 + (j : Int) ≤ tp + 1 ∧ OwnS wr (w.heap.size + 1) (.slice A1 (acc L Y fr k0 j).length c1) (acc L Y fr k0 j) ∧ St w wr w.heap.size bs A c (some ay) c' fr L Y) (fun ov kv iv _ => (tp + 1 - intOf kv).toNat)
  case atStart => exact ⟨0, A4, c4, rfl, by simp, by omega, ho4, s4⟩
  case round =>
    clear s4 ho4
    obtain ⟨j, A1, k1, rfl, rfl, hj, O, s⟩ := hrel
    obtain ⟨lt, c0, c1, c2, c3⟩ := s.cells
    have la := acc_len (L := L) (y := k0) hMY.out j
    by_cases hc : k0 + (j : Int) ≤ tp
    · have hE := Lib.hid (show acc L Y fr k0 (j + 1) = acc L Y fr k0 j ++ Y.map (yearAt (k0 + (j : Int))) by simp only [acc]; rw [yearL_in (by omega) (by omega)])
      go_wp2_with fail
      clear lt c0 c1 c2 c3
      go_loopw [5, 13] (fun ov iv wz => ∃ (i : Nat) (A2 : Option Addr) (k2 : Nat) (M : List Sh), ov = .slice A2 M.length k2 ∧ iv = .int .i64 (i : Int) ∧ i ≤ 2 ∧ M = acc L Y fr k0 j ++ (Y.take i).map (yearAt (k0 + (j : Int))) ∧ OwnS wz (w.heap.size + 1) (.slice A2 M.length k2) M ∧ St w wz w.heap.size bs A c (some ay) c' fr L Y) (fun ov iv _ => 2 - (intOf iv).toNat)
      case atStart => exact ⟨0, A1, k1, _, rfl, rfl, by omega, by simp, O, s⟩
      case round =>
        clear s O
        obtain ⟨i, A2, k2, M, rfl, rfl, hi2, hMe, O, s⟩ := hrel
        obtain ⟨lt, c0, c1, c2, c3⟩ := s.cells
        have lM : M.length ≤ L.length + 2 * j + 2 := by
          rw [hMe, List.length_append, List.length_map, List.length_take]
          omega
        replace hMe := Lib.hid hMe
        have jb : j ≤ 5 := by omega
        by_cases hlt : i < 2
        · have hiY : i < Y.length := by have := hY2.out; omega
          have i0' : (0 : Int) ≤ (i : Int) := by omega
          have i1 : (i : Int) < (Y.length : Int) := by omega
          have i2 : (i : Int) < 2 := by omega
          have hnx := Lib.hid (show M ++ [(⟨(yearAt (k0 + (j : Int)) Y[i]).at_, Y[i].o⟩ : Sh)] = acc L Y fr k0 j ++ (Y.take (i + 1)).map (yearAt (k0 + (j : Int))) by
            rw [hMe.out, List.append_assoc, ← take_map_snoc hiY]
            rfl)
          go_wp2_with fail
          replace s := s.drew
          replace O : OwnS wr.drew (w.heap.size + 1) (.slice A2 M.length k2) M := O.below ((Below.refl _ _).drew) (Nat.le_refl _)
          refine wp_region_held_drew (S := fun w9 => St w w9 w.heap.size bs A c (some ay) c' fr L Y) (by kernel_rfl) s (fun _ => ?_)
          refine wpAnyH_take (i := 0) (oi := { dst := some 54, op := Op.move (Operand.tmp 5), type := 22, pos := "ref.go:351", after := #[], guard := none }) (v := ?_) rfl (by kernel_rfl) (by kernel_rfl) (by kernel_rfl) (fun _ _ _ h => h) (Or.inl ⟨by rfl, ?_⟩) (by trivial) ?_
          rotate_left
          (focus (intro w9 hSw; have s9 := hSw; obtain ⟨lt, c0, c1, c2, c3⟩ := s9.cells; obtain ⟨r0, r1, r2, r3, r4⟩ := yr_get s9.z.y i hiY; go_simp <;> with_reducible rfl))
          try simp only [Act.put, List.setIfInBounds_toArray, List.set_cons_zero, List.set_cons_succ]
          refine wpAnyH_take (i := 1) (oi := { dst := some 55, op := Op.fieldAddr 25 (Operand.tmp 2) 2, type := 0, pos := "ref.go:351", after := #[], guard := none }) (v := ?_) rfl (by kernel_rfl) (by kernel_rfl) (by kernel_rfl) (fun _ _ _ h => h) (Or.inl ⟨by rfl, ?_⟩) (by trivial) ?_
          rotate_left
          (focus (intro w9 hSw; have s9 := hSw; obtain ⟨lt, c0, c1, c2, c3⟩ := s9.cells; obtain ⟨r0, r1, r2, r3, r4⟩ := yr_get s9.z.y i hiY; go_simp <;> with_reducible rfl))
          try simp only [Act.put, List.setIfInBounds_toArray, List.set_cons_zero, List.set_cons_succ]
          refine wpAnyH_take (i := 2) (oi := { dst := some 56, op := Op.load 23 (Operand.tmp 55), type := 23, pos := "ref.go:351", after := #[{ on := 1, ground := Ground.data }], guard := none }) (v := ?_) rfl (by kernel_rfl) (by kernel_rfl) (by kernel_rfl) (fun _ _ _ h => h) (Or.inl ⟨by rfl, ?_⟩) (by trivial) ?_
          rotate_left
          (focus (intro w9 hSw; have s9 := hSw; obtain ⟨lt, c0, c1, c2, c3⟩ := s9.cells; obtain ⟨r0, r1, r2, r3, r4⟩ := yr_get s9.z.y i hiY; go_simp <;> with_reducible rfl))
          try simp only [Act.put, List.setIfInBounds_toArray, List.set_cons_zero, List.set_cons_succ]
          refine wpAnyH_take (i := 3) (oi := { dst := some 57, op := Op.move (Operand.tmp 13), type := 3, pos := "ref.go:351", after := #[], guard := none }) (v := ?_) rfl (by kernel_rfl) (by kernel_rfl) (by kernel_rfl) (fun _ _ _ h => h) (Or.inl ⟨by rfl, ?_⟩) (by trivial) ?_
          rotate_left
          (focus (intro w9 hSw; have s9 := hSw; obtain ⟨lt, c0, c1, c2, c3⟩ := s9.cells; obtain ⟨r0, r1, r2, r3, r4⟩ := yr_get s9.z.y i hiY; go_simp <;> with_reducible rfl))
          try simp only [Act.put, List.setIfInBounds_toArray, List.set_cons_zero, List.set_cons_succ]
          refine wpAnyH_take (i := 4) (oi := { dst := some 58, op := Op.indexAddr 23 (Operand.tmp 56) (Operand.tmp 57), type := 0, pos := "ref.go:351", after := #[{ on := 2, ground := Ground.data }, { on := 3, ground := Ground.data }], guard := none }) (v := ?_) rfl (by kernel_rfl) (by kernel_rfl) (by kernel_rfl) (fun _ _ _ h => h) (Or.inl ⟨by rfl, ?_⟩) (by trivial) ?_
          rotate_left
          (focus (intro w9 hSw; have s9 := hSw; obtain ⟨lt, c0, c1, c2, c3⟩ := s9.cells; obtain ⟨r0, r1, r2, r3, r4⟩ := yr_get s9.z.y i hiY; go_simp <;> with_reducible rfl))
          try simp only [Act.put, List.setIfInBounds_toArray, List.set_cons_zero, List.set_cons_succ]
          refine wpAnyH_take (i := 5) (oi := { dst := some 59, op := Op.load 50 (Operand.tmp 58), type := 50, pos := "ref.go:351", after := #[{ on := 4, ground := Ground.data }], guard := none }) (v := ?_) rfl (by kernel_rfl) (by kernel_rfl) (by kernel_rfl) (fun _ _ _ h => h) (Or.inl ⟨by rfl, ?_⟩) (by trivial) ?_
          rotate_left
          (focus (intro w9 hSw; have s9 := hSw; obtain ⟨lt, c0, c1, c2, c3⟩ := s9.cells; obtain ⟨r0, r1, r2, r3, r4⟩ := yr_get s9.z.y i hiY; go_simp <;> with_reducible rfl))
          try simp only [Act.put, List.setIfInBounds_toArray, List.set_cons_zero, List.set_cons_succ]
          refine wpAnyH_take (i := 6) (oi := { dst := some 60, op := Op.move (Operand.tmp 12), type := 3, pos := "ref.go:351", after := #[], guard := none }) (v := ?_) rfl (by kernel_rfl) (by kernel_rfl) (by kernel_rfl) (fun _ _ _ h => h) (Or.inl ⟨by rfl, ?_⟩) (by trivial) ?_
          rotate_left
          (focus (intro w9 hSw; have s9 := hSw; obtain ⟨lt, c0, c1, c2, c3⟩ := s9.cells; obtain ⟨r0, r1, r2, r3, r4⟩ := yr_get s9.z.y i hiY; go_simp <;> with_reducible rfl))
          try simp only [Act.put, List.setIfInBounds_toArray, List.set_cons_zero, List.set_cons_succ]
          refine wpAnyH_take (i := 8) (oi := { dst := some 62, op := Op.fieldAddr 25 (Operand.tmp 2) 2, type := 0, pos := "ref.go:351", after := #[], guard := none }) (v := ?_) rfl (by kernel_rfl) (by kernel_rfl) (by kernel_rfl) (fun _ _ _ h => h) (Or.inl ⟨by rfl, ?_⟩) (by trivial) ?_
          rotate_left
          (focus (intro w9 hSw; have s9 := hSw; obtain ⟨lt, c0, c1, c2, c3⟩ := s9.cells; obtain ⟨r0, r1, r2, r3, r4⟩ := yr_get s9.z.y i hiY; go_simp <;> with_reducible rfl))
          try simp only [Act.put, List.setIfInBounds_toArray, List.set_cons_zero, List.set_cons_succ]
          refine wpAnyH_take (i := 9) (oi := { dst := some 63, op := Op.load 23 (Operand.tmp 62), type := 23, pos := "ref.go:351", after := #[{ on := 8, ground := Ground.data }], guard := none }) (v := ?_) rfl (by kernel_rfl) (by kernel_rfl) (by kernel_rfl) (fun _ _ _ h => h) (Or.inl ⟨by rfl, ?_⟩) (by trivial) ?_
          rotate_left
          (focus (intro w9 hSw; have s9 := hSw; obtain ⟨lt, c0, c1, c2, c3⟩ := s9.cells; obtain ⟨r0, r1, r2, r3, r4⟩ := yr_get s9.z.y i hiY; go_simp <;> with_reducible rfl))
          try simp only [Act.put, List.setIfInBounds_toArray, List.set_cons_zero, List.set_cons_succ]
          refine wpAnyH_take (i := 10) (oi := { dst := some 64, op := Op.move (Operand.tmp 13), type := 3, pos := "ref.go:351", after := #[], guard := none }) (v := ?_) rfl (by kernel_rfl) (by kernel_rfl) (by kernel_rfl) (fun _ _ _ h => h) (Or.inl ⟨by rfl, ?_⟩) (by trivial) ?_
          rotate_left
          (focus (intro w9 hSw; have s9 := hSw; obtain ⟨lt, c0, c1, c2, c3⟩ := s9.cells; obtain ⟨r0, r1, r2, r3, r4⟩ := yr_get s9.z.y i hiY; go_simp <;> with_reducible rfl))
          try simp only [Act.put, List.setIfInBounds_toArray, List.set_cons_zero, List.set_cons_succ]
          refine wpAnyH_take (i := 11) (oi := { dst := some 65, op := Op.indexAddr 23 (Operand.tmp 63) (Operand.tmp 64), type := 0, pos := "ref.go:351", after := #[{ on := 9, ground := Ground.data }, { on := 10, ground := Ground.data }], guard := none }) (v := ?_) rfl (by kernel_rfl) (by kernel_rfl) (by kernel_rfl) (fun _ _ _ h => h) (Or.inl ⟨by rfl, ?_⟩) (by trivial) ?_
          rotate_left
          (focus (intro w9 hSw; have s9 := hSw; obtain ⟨lt, c0, c1, c2, c3⟩ := s9.cells; obtain ⟨r0, r1, r2, r3, r4⟩ := yr_get s9.z.y i hiY; go_simp <;> with_reducible rfl))
          try simp only [Act.put, List.setIfInBounds_toArray, List.set_cons_zero, List.set_cons_succ]
          refine wpAnyH_take (i := 12) (oi := { dst := some 66, op := Op.fieldAddr 50 (Operand.tmp 65) 4, type := 0, pos := "ref.go:351", after := #[{ on := 11, ground := Ground.data }], guard := none }) (v := ?_) rfl (by kernel_rfl) (by kernel_rfl) (by kernel_rfl) (fun _ _ _ h => h) (Or.inl ⟨by rfl, ?_⟩) (by trivial) ?_
          rotate_left
          (focus (intro w9 hSw; have s9 := hSw; obtain ⟨lt, c0, c1, c2, c3⟩ := s9.cells; obtain ⟨r0, r1, r2, r3, r4⟩ := yr_get s9.z.y i hiY; go_simp <;> with_reducible rfl))
          try simp only [Act.put, List.setIfInBounds_toArray, List.set_cons_zero, List.set_cons_succ]
          refine wpAnyH_take (i := 13) (oi := { dst := some 67, op := Op.load 3 (Operand.tmp 66), type := 3, pos := "ref.go:351", after := #[{ on := 12, ground := Ground.data }], guard := none }) (v := ?_) rfl (by kernel_rfl) (by kernel_rfl) (by kernel_rfl) (fun _ _ _ h => h) (Or.inl ⟨by rfl, ?_⟩) (by trivial) ?_
          rotate_left
          (focus (intro w9 hSw; have s9 := hSw; obtain ⟨lt, c0, c1, c2, c3⟩ := s9.cells; obtain ⟨r0, r1, r2, r3, r4⟩ := yr_get s9.z.y i hiY; go_simp <;> with_reducible rfl))
          try simp only [Act.put, List.setIfInBounds_toArray, List.set_cons_zero, List.set_cons_succ]
          refine wpAnyH_ready (rs := [7]) (by kernel_rfl) (by simp) ?_
          refine AllReadyH.cons (o := { dst := some 61, op := Op.call { callee := Callee.value (Operand.func 51), args := #[Operand.tmp 59, Operand.tmp 60], argTypes := #[50, 3] }, type := 3, pos := "ref.go:351", after := #[{ on := 5, ground := Ground.data }, { on := 6, ground := Ground.data }], guard := none }) rfl (fun K hK => ?_) AllReadyH.nil
          go_simp
          refine (ryearly_any Y[i] (k0 + (j : Int)) (hYok i hiY) (by omega) (by omega) _).mono ?_
          rintro e wz ⟨rfl, bb⟩
          replace s := s.step bb
          replace O := O.below bb (Nat.le_refl _)
          clear bb
          go_wp2_with fail
          refine hK.out _ _ s (fun _ => ?_)
          clear hK K
          try simp only [Act.put, List.setIfInBounds_toArray, List.set_cons_zero, List.set_cons_succ]
          refine wpAnyH_take (i := 14) (oi := { dst := some 68, op := Op.build 29 #[(0, Operand.tmp 61), (1, Operand.tmp 67)], type := 29, pos := "ref.go:351", after := #[{ on := 7, ground := Ground.data }, { on := 13, ground := Ground.data }], guard := none }) (v := ?_) rfl (by kernel_rfl) (by kernel_rfl) (by kernel_rfl) (fun _ _ _ h => h) (Or.inl ⟨by rfl, ?_⟩) (by trivial) ?_
          rotate_left
          (focus (intro w9 hSw; have s9 := hSw; obtain ⟨lt, c0, c1, c2, c3⟩ := s9.cells; obtain ⟨r0, r1, r2, r3, r4⟩ := yr_get s9.z.y i hiY; go_simp <;> with_reducible rfl))
          try simp only [Act.put, List.setIfInBounds_toArray, List.set_cons_zero, List.set_cons_succ]
          refine wpAnyH_ready (rs := [15]) (by kernel_rfl) (by simp) ?_
          refine AllReadyH.cons (o := { dst := some 69, op := Op.buildSlice 22 1 #[(0, Operand.tmp 68)], type := 22, pos := "ref.go:351", after := #[{ on := 14, ground := Ground.data }], guard := none }) rfl (fun K hK => ?_) AllReadyH.nil
          go_simp
          go_wp2_with fail
          have hR := one_row wz ⟨(yearAt (k0 + (j : Int)) Y[i]).at_, Y[i].o⟩
          replace s := s.alloc (.cells #[.int .i64 (yearAt (k0 + (j : Int)) Y[i]).at_, .int .i64 Y[i].o] 29)
          replace O := O.alloc (.cells #[.int .i64 (yearAt (k0 + (j : Int)) Y[i]).at_, .int .i64 Y[i].o] 29)
          unfold OwnS at O
          refine hK.out _ _ s (fun _ => ?_)
          clear hK K
          try simp only [Act.put, List.setIfInBounds_toArray, List.set_cons_zero, List.set_cons_succ]
          refine wpAnyH_ready (rs := [16]) (by kernel_rfl) (by simp) ?_
          refine AllReadyH.cons (o := { dst := some 70, op := Op.call { callee := Callee.builtin Builtin.append, args := #[Operand.tmp 54, Operand.tmp 69], argTypes := #[22, 22] }, type := 22, pos := "ref.go:351", after := #[{ on := 0, ground := Ground.data }, { on := 15, ground := Ground.data }, { on := 7, ground := Ground.chain }], guard := none }) rfl (fun K hK => ?_) AllReadyH.nil
          refine step_append_any _ rfl (.tmp 54) (.tmp 69) 22 rfl (w.heap.size + 1) 29 i0 _ 2 16 Try.underlying22 hi hz0 hz1 hz2 rfl (by omega) _ M.length _ (by rfl) O _ _ 1 1 _ (by rfl) hR (flat_one _) (by simp only [maxLen]; omega) (by omega) s.x.lt ?_
          intro v5 w5 o5 g5 at5
          have n5 := fun k hk => (World.ownsRow.lt O k hk).1
          have s5 : St w w5 w.heap.size bs A c (some ay) c' fr L Y := s.grown g5 O rfl
          replace s := s5
          refine hK.out _ _ s (fun _ => ?_)
          clear hK K
          try simp only [Act.put, List.setIfInBounds_toArray, List.set_cons_zero, List.set_cons_succ]
          refine wpAnyH_take (i := 17) (oi := { dst := some 5, op := Op.assign (Operand.tmp 70), type := 22, pos := "ref.go:351", after := #[{ on := 16, ground := Ground.data }, { on := 16, ground := Ground.chain }, { on := 0, ground := Ground.phase }, { on := 1, ground := Ground.phase }, { on := 2, ground := Ground.phase }, { on := 3, ground := Ground.phase }, { on := 4, ground := Ground.phase }, { on := 5, ground := Ground.phase }, { on := 6, ground := Ground.phase }, { on := 7, ground := Ground.phase }, { on := 8, ground := Ground.phase }, { on := 9, ground := Ground.phase }, { on := 10, ground := Ground.phase }, { on := 11, ground := Ground.phase }, { on := 12, ground := Ground.phase }, { on := 13, ground := Ground.phase }, { on := 14, ground := Ground.phase }, { on := 15, ground := Ground.phase }, { on := 16, ground := Ground.phase }], guard := none }) (v := ?_) rfl (by kernel_rfl) (by kernel_rfl) (by kernel_rfl) (fun _ _ _ h => h) (Or.inl ⟨by rfl, ?_⟩) (by trivial) ?_
          rotate_left
          (focus (intro w9 hSw; have s9 := hSw; obtain ⟨lt, c0, c1, c2, c3⟩ := s9.cells; obtain ⟨r0, r1, r2, r3, r4⟩ := yr_get s9.z.y i hiY; go_simp <;> with_reducible rfl))
          try simp only [Act.put, List.setIfInBounds_toArray, List.set_cons_zero, List.set_cons_succ]
          refine wpAnyH_done (by kernel_rfl) ?_ _
          go_wp2_with fail
          have ho := ownS_more (M := [(⟨(yearAt (k0 + (j : Int)) Y[i]).at_, Y[i].o⟩ : Sh)]) o5
          obtain ⟨N, hN⟩ : ∃ N, N = M ++ [(⟨(yearAt (k0 + (j : Int)) Y[i]).at_, Y[i].o⟩ : Sh)] := ⟨_, rfl⟩
          rw [← hN] at ho hnx
          obtain ⟨A6, k6, rfl⟩ := ho.form
          go_roundw
          case rel => exact ⟨i + 1, A6, k6, N, rfl, by simp, by omega, hnx.out, ho, s⟩
          case measure => simp [intOf]; omega
        · obtain rfl : i = 2 := by omega
          have hl2 : M = acc L Y fr k0 (j + 1) := by
            rw [hE.out, hMe.out, List.take_of_length_le (by have := hY2.out; omega)]
          subst hl2
          clear hMe
          go_wp2_with fail
          go_roundw
          case rel => exact ⟨j + 1, A2, k2, rfl, by simp; omega, by omega, O, s⟩
          case measure => simp [intOf]; omega
    · have hJ := hfin.out j (by omega)
      have lj : (acc L Y fr k0 j).length ≤ 1000 := by omega
      go_wp2_with fail
      go_ret
      exact ⟨A1, k1, _, rfl, O.mono (Nat.le_succ _), s.b, lj, hJ⟩
end Go.Proofs.Ytbnchbcdgffkaaa
