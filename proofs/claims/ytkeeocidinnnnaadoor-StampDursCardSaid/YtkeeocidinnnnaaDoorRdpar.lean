/- vokref1.DurParse. -/
import Derived.Test.YtkeeocidinnnnaaDoorRdur
namespace Go.Proofs.YtkeeocidinnnnaaDoor
open Go.RowKit
set_option linter.unusedVariables false
/-- One sign read by the document: the sum so far, and the number at hand. -/
def rstep (p : Int × Int) (b : Nat) : Int × Int :=
  if 48 ≤ b ∧ b ≤ 57 then (p.1, min (10 * p.2 + ((b : Int) - 48)) 8589934592) else if unit b = 0 then p else (min (p.1 + p.2 * unit b) 1152921504606846976, 0)
def rrun (s : ByteArray) : Nat → Int × Int
  | 0 => (0, 0)
  | j + 1 => rstep (rrun s j) (byteAt s (j + 1))
theorem unit_bd (b : Nat) : 0 ≤ unit b ∧ unit b ≤ 604800 := by
  unfold unit
  repeat' split
  all_goals omega
theorem rstep_bd {p : Int × Int} {b : Nat} (h : 0 ≤ p.1 ∧ p.1 ≤ 1152921504606846976 ∧ 0 ≤ p.2 ∧ p.2 ≤ 8589934592) : 0 ≤ (rstep p b).1 ∧ (rstep p b).1 ≤ 1152921504606846976 ∧ 0 ≤ (rstep p b).2 ∧ (rstep p b).2 ≤ 8589934592 := by
  unfold rstep
  have hu := unit_bd b
  split
  · simp only; omega
  · split
    · exact h
    · have : 0 ≤ p.2 * unit b := Int.mul_nonneg h.2.2.1 hu.1
      simp only; omega
theorem rrun_bd (s : ByteArray) : ∀ j, 0 ≤ (rrun s j).1 ∧ (rrun s j).1 ≤ 1152921504606846976 ∧ 0 ≤ (rrun s j).2 ∧ (rrun s j).2 ≤ 8589934592
  | 0 => by show (0 : Int) ≤ 0 ∧ (0 : Int) ≤ 1152921504606846976 ∧ (0 : Int) ≤ 0 ∧ (0 : Int) ≤ 8589934592; decide
  | j + 1 => rstep_bd (rrun_bd s j)
open Classical in
noncomputable def rdV (s : ByteArray) : Int × Int := if (1 ≤ (rrun s (s.size - 1)).1 ∧ (rrun s (s.size - 1)).1 ≤ 2147483648) ∧ (⟨(dur (rrun s (s.size - 1)).1).toArray⟩ : ByteArray) = s then ((rrun s (s.size - 1)).1, 0) else (0, 4)
theorem isEmpty_no {s : ByteArray} (h1 : 1 ≤ s.size) : s.toList.isEmpty = false := by
  rw [ByteArray.toList_eq]
  cases q : s.data.toList with
  | nil =>
    have z : s.size = s.data.toList.length := (Array.length_toList (xs := s.data)).symm
    rw [q] at z
    exact absurd h1 (by rw [z]; decide)
  | cons x l => rfl
theorem rdurparse_long (s : ByteArray) (h1 : 1 ≤ s.size) (h2 : 30 < s.size) (w : World) : Calls Tryd.prog 21 #[.string s] w fun e w' => e = .returned (.tuple #[.int .i64 0, .int .i64 4]) ∧ w = w' := by
  have hne := isEmpty_no h1
  have t : decide ((30 : Int) < (s.size : Int)) = true := decide_eq_true (by omega)
  go_enter Tryd.func21, Tryd.ntmps21
  go_wp2_with fail
  go_ret2
  exact ⟨rfl, rfl⟩
set_option maxRecDepth 100000 in
set_option maxHeartbeats 8000000 in
theorem rdurparse_any (s : ByteArray) (h1 : 1 ≤ s.size) (h2 : s.size ≤ 30) (w : World) :
    Calls Tryd.prog 21 #[.string s] w fun e w' => e = .returned (.tuple #[.int .i64 (rdV s).1, .int .i64 (rdV s).2]) ∧ Below w.heap.size w w' := by
  have hne := isEmpty_no h1
  have t30 : decide ((30 : Int) < (s.size : Int)) = false := decide_eq_false (by omega)
  go_enter Tryd.func21, Tryd.ntmps21
  go_wp2_with fail
  go_loopw [4, 5, 6] (fun tv nv kv wr => ∃ (k j : Nat), k = j + 1 ∧ 1 ≤ k ∧ k ≤ s.size ∧ tv = .int .i64 (rrun s j).1 ∧ nv = .int .i64 (rrun s j).2 ∧ kv = .int .i64 (k : Int) ∧ w = wr) (fun tv nv kv _ => s.size - (intOf kv).toNat)
  case atStart => exact ⟨1, 0, rfl, by omega, by omega, rfl, rfl, rfl, rfl⟩
  case round =>
    obtain ⟨k, j, hkj, hk1, hk, rfl, rfl, rfl, rfl⟩ := hrel
    have hbd : 0 ≤ (rrun s j).1 ∧ (rrun s j).1 ≤ 1152921504606846976 ∧ 0 ≤ (rrun s j).2 ∧ (rrun s j).2 ≤ 8589934592 := rrun_bd s j
    by_cases hlt : k < s.size
    · have i0 : (0 : Int) ≤ (k : Int) := by omega
      have i1 : (k : Int) < (s.size : Int) := by omega
      have hby : byteAt s k = s[k].toNat := by unfold byteAt; rw [dif_pos hlt]
      have hb8 : s[k].toNat < 256 := s[k].toNat_lt
      have hst : rrun s k = rstep (rrun s j) s[k].toNat := by rw [← hby, hkj]; rfl
      generalize hB : s[k].toNat = bb at hst hb8
      clear hby
      generalize rrun s j = p at hbd hst ⊢
      obtain ⟨tt, n⟩ := p
      obtain ⟨p1, p2, p3, p4⟩ := hbd
      simp only at p1 p2 p3 p4
      clear hkj
      replace hst := Lib.hid hst
      by_cases q0 : 48 ≤ bb ∧ bb ≤ 57
      · have t1 : decide ((48 : Int) ≤ (bb : Int)) = true := decide_eq_true (by omega)
        have t2 : decide ((bb : Int) ≤ 57) = true := decide_eq_true (by omega)
        have hst : rrun s k = (tt, min (10 * n + ((bb : Int) - 48)) 8589934592) := by rw [hst.out]; unfold rstep; rw [if_pos q0]
        replace hst := Lib.hid hst
        go_wp2_with fail
        go_roundw
        case rel => exact ⟨k + 1, k, by omega, by omega, by omega, by first | (rw [hst.out]; done) | (rw [hst.out]; first | rfl | trivial | simp), by first | (rw [hst.out]; done) | (rw [hst.out]; first | rfl | trivial | simp), by simp, trivial⟩
        case measure => simp [intOf]; omega
      · by_cases q87 : bb = 87
        · subst q87
          have t1 : decide ((48 : Int) ≤ ((87 : Nat) : Int)) = true := rfl
          have t2 : decide (((87 : Nat) : Int) ≤ 57) = false := rfl
          have hst : rrun s k = (min (tt + n * 604800) 1152921504606846976, 0) := hst.out
          replace hst := Lib.hid hst
          go_wp2_with fail
          go_roundw
          case rel => exact ⟨k + 1, k, by omega, by omega, by omega, by first | (rw [hst.out]; done) | (rw [hst.out]; first | rfl | trivial | simp), by first | (rw [hst.out]; done) | (rw [hst.out]; first | rfl | trivial | simp), by simp, trivial⟩
          case measure => simp [intOf]; omega
        · have q87t : ((bb : Int) == 87) = false := by rw [beq_eq_false_iff_ne]; omega
          by_cases q68 : bb = 68
          · subst q68
            have t1 : decide ((48 : Int) ≤ ((68 : Nat) : Int)) = true := rfl
            have t2 : decide (((68 : Nat) : Int) ≤ 57) = false := rfl
            have hst : rrun s k = (min (tt + n * 86400) 1152921504606846976, 0) := hst.out
            replace hst := Lib.hid hst
            go_wp2_with fail
            go_roundw
            case rel => exact ⟨k + 1, k, by omega, by omega, by omega, by first | (rw [hst.out]; done) | (rw [hst.out]; first | rfl | trivial | simp), by first | (rw [hst.out]; done) | (rw [hst.out]; first | rfl | trivial | simp), by simp, trivial⟩
            case measure => simp [intOf]; omega
          · have q68t : ((bb : Int) == 68) = false := by rw [beq_eq_false_iff_ne]; omega
            by_cases q72 : bb = 72
            · subst q72
              have t1 : decide ((48 : Int) ≤ ((72 : Nat) : Int)) = true := rfl
              have t2 : decide (((72 : Nat) : Int) ≤ 57) = false := rfl
              have hst : rrun s k = (min (tt + n * 3600) 1152921504606846976, 0) := hst.out
              replace hst := Lib.hid hst
              go_wp2_with fail
              go_roundw
              case rel => exact ⟨k + 1, k, by omega, by omega, by omega, by first | (rw [hst.out]; done) | (rw [hst.out]; first | rfl | trivial | simp), by first | (rw [hst.out]; done) | (rw [hst.out]; first | rfl | trivial | simp), by simp, trivial⟩
              case measure => simp [intOf]; omega
            · have q72t : ((bb : Int) == 72) = false := by rw [beq_eq_false_iff_ne]; omega
              by_cases q77 : bb = 77
              · subst q77
                have t1 : decide ((48 : Int) ≤ ((77 : Nat) : Int)) = true := rfl
                have t2 : decide (((77 : Nat) : Int) ≤ 57) = false := rfl
                have hst : rrun s k = (min (tt + n * 60) 1152921504606846976, 0) := hst.out
                replace hst := Lib.hid hst
                go_wp2_with fail
                go_roundw
                case rel => exact ⟨k + 1, k, by omega, by omega, by omega, by first | (rw [hst.out]; done) | (rw [hst.out]; first | rfl | trivial | simp), by first | (rw [hst.out]; done) | (rw [hst.out]; first | rfl | trivial | simp), by simp, trivial⟩
                case measure => simp [intOf]; omega
              · have q77t : ((bb : Int) == 77) = false := by rw [beq_eq_false_iff_ne]; omega
                by_cases q83 : bb = 83
                · subst q83
                  have t1 : decide ((48 : Int) ≤ ((83 : Nat) : Int)) = true := rfl
                  have t2 : decide (((83 : Nat) : Int) ≤ 57) = false := rfl
                  have hst : rrun s k = (min (tt + n * 1) 1152921504606846976, 0) := hst.out
                  replace hst := Lib.hid hst
                  go_wp2_with fail
                  go_roundw
                  case rel => exact ⟨k + 1, k, by omega, by omega, by omega, by first | (rw [hst.out]; done) | (rw [hst.out]; first | rfl | trivial | simp), by first | (rw [hst.out]; done) | (rw [hst.out]; first | rfl | trivial | simp), by simp, trivial⟩
                  case measure => simp [intOf]; omega
                · have q83t : ((bb : Int) == 83) = false := by rw [beq_eq_false_iff_ne]; omega
                  have hst : rrun s k = (tt, n) := by rw [hst.out]; unfold rstep; rw [if_neg q0, if_pos (by unfold unit; rw [if_neg q87, if_neg q68, if_neg q72, if_neg q77, if_neg q83])]
                  replace hst := Lib.hid hst
                  by_cases q1 : 48 ≤ bb
                  · have t1 : decide ((48 : Int) ≤ (bb : Int)) = true := decide_eq_true (by omega)
                    have t2 : decide ((bb : Int) ≤ 57) = false := decide_eq_false (by omega)
                    go_wp2_with fail
                    go_roundw
                    case rel => exact ⟨k + 1, k, by omega, by omega, by omega, by first | (rw [hst.out]; done) | (rw [hst.out]; first | rfl | trivial | simp), by first | (rw [hst.out]; done) | (rw [hst.out]; first | rfl | trivial | simp), by simp, trivial⟩
                    case measure => simp [intOf]; omega
                  · have t1 : decide ((48 : Int) ≤ (bb : Int)) = false := decide_eq_false (by omega)
                    go_wp2_with fail
                    go_roundw
                    case rel => exact ⟨k + 1, k, by omega, by omega, by omega, by first | (rw [hst.out]; done) | (rw [hst.out]; first | rfl | trivial | simp), by first | (rw [hst.out]; done) | (rw [hst.out]; first | rfl | trivial | simp), by simp, trivial⟩
                    case measure => simp [intOf]; omega
    · have hks : k = s.size := by omega
      have hR : rrun s j = rrun s (s.size - 1) := by rw [show s.size - 1 = j by omega]
      have hV : rdV s = if (1 ≤ (rrun s j).1 ∧ (rrun s j).1 ≤ 2147483648) ∧ (⟨(dur (rrun s j).1).toArray⟩ : ByteArray) = s then ((rrun s j).1, 0) else (0, 4) := by unfold rdV; rw [← hR]
      clear hR
      obtain ⟨TT, hTT⟩ : ∃ TT, TT = (rrun s j).1 := ⟨_, rfl⟩
      rw [← hTT] at hV hbd ⊢
      generalize (rrun s j).2 = nn at hbd ⊢
      obtain ⟨p1, p2, p3, p4⟩ := hbd
      replace hTT := Lib.hid hTT
      have ksz : decide ((k : Int) < (s.size : Int)) = false := decide_eq_false (by omega)
      have b := Below.refl w.heap.size w
      clear hkj
      by_cases g : 1 ≤ TT ∧ TT ≤ 2147483648
      · have hD := rdur_yes TT g.1 g.2
        by_cases e : (⟨(dur TT).toArray⟩ : ByteArray) = s
        · rw [if_pos ⟨g, e⟩] at hV
          rw [e] at hD
          replace hV := Lib.hid hV
          clear g e hne
          go_wp2_with fail
          refine (hD _).mono ?_
          rintro e wz ⟨rfl, bb⟩
          replace b := b.trans (bb.mono b.size)
          go_wp2_with fail
          go_ret2
          rw [hV.out]
          exact ⟨rfl, b⟩
        · rw [if_neg (fun h => e h.2)] at hV
          generalize (⟨(dur TT).toArray⟩ : ByteArray) = d at e hD
          have hne2 := str_ne e
          replace hV := Lib.hid hV
          clear g hne
          go_wp2_with fail
          refine (hD _).mono ?_
          rintro e wz ⟨rfl, bb⟩
          replace b := b.trans (bb.mono b.size)
          go_wp2_with fail
          go_ret2
          rw [hV.out]
          exact ⟨rfl, b⟩
      · rw [if_neg (fun h => g h.1)] at hV
        replace hV := Lib.hid hV
        have hD := rdur_no TT g
        clear g hne
        go_wp2_with fail
        refine (hD _).mono ?_
        rintro e wz ⟨rfl, rfl⟩
        go_wp2_with fail
        go_ret2
        rw [hV.out]
        exact ⟨rfl, b⟩
end Go.Proofs.YtkeeocidinnnnaaDoor
