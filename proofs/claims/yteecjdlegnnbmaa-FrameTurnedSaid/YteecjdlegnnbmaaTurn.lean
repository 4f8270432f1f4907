/- A record with one byte turned is refused: plain Lean. -/
import Derived.Test.YteecjdlegnnbmaaSums
import Derived.Test.YteecjdlegnnbmaaGets
namespace Go.Proofs.Yteecjdlegnnbmaa
open Go.RowKit
set_option linter.unusedVariables false
theorem be4_inj {s t : Nat} (hs : s < 4294967296) (ht : t < 4294967296) (h : be4 s = be4 t) : s = t := by
  simp only [be4, List.cons.injEq, and_true] at h
  omega
theorem recd_get {p : List Nat} {k : Nat} (hk : k < 6) : ((hd p.length ++ be4 (Crc.crc (hd p.length ++ p)))).length = 6 := by simp [hd, be4]
theorem crc_one {l : List Nat} (hs : Small l) {p y : Nat} (hp : p < l.length) (hy : y < 256) (h : Crc.crc (l.set p y) = Crc.crc l) : y = l[p] := by
  have e1 : l.set p y = l.take p ++ y :: l.drop (p + 1) := List.set_eq_take_append_cons_drop ▸ (by rw [if_pos hp])
  have e2 : l = l.take p ++ l[p] :: l.drop (p + 1) := by rw [← List.drop_eq_getElem_cons hp, List.take_append_drop]
  rw [e1] at h
  have h2 : Crc.crc (l.take p ++ y :: l.drop (p + 1)) = Crc.crc (l.take p ++ l[p] :: l.drop (p + 1)) := h.trans (congrArg Crc.crc e2)
  exact Crc.crc_turned (hs.take p) (hs.drop (p + 1)) hy (hs.get hp) h2
/-- A record with one byte behind its length turned is refused for its sum. -/
theorem getx_turned {p : List Nat} (hs : Small p) (hn : p.length ≤ 8192) {i y : Nat} (h2 : 2 ≤ i) (hi : i < (recd p).length) (hy : y < 256) (hne : y ≠ (recd p)[i]) : getx ((recd p).set i y) = .err 5 := by
  have hrl := recd_length p
  have hl : ((recd p).set i y).length = p.length + 6 := by rw [List.length_set, hrl]
  have hnum : numAt ((recd p).set i y) = p.length := by
    have e0 : numAt (recd p) = p.length := by have := recd_num p [] (by omega); simpa using this
    rw [← e0]
    unfold numAt
    simp only [List.getD_eq_getElem?_getD, List.getElem?_set]
    rw [if_neg (by omega), if_neg (by omega)]
  have hP : (((recd p).set i y).drop 6).take p.length = ((recd p).set i y).drop 6 := List.take_of_length_le (by rw [List.length_drop, hl]; omega)
  have hW : ((recd p).set i y).take (6 + p.length) = (recd p).set i y := List.take_of_length_le (by rw [hl]; omega)
  refine getx_sum (by omega) (by omega) (by omega) ?_
  rw [hnum, hP, hW]
  intro h
  have hR : recd p = (hd p.length ++ be4 (Crc.crc (hd p.length ++ p))) ++ p := rfl
  have h6 : (hd p.length ++ be4 (Crc.crc (hd p.length ++ p))).length = 6 := by simp [hd, be4]
  by_cases hlt : i < 6
  · have e : ((recd p).set i y).drop 6 = p := by
      rw [hR, List.set_append_left _ _ (by omega), List.drop_left' (by rw [List.length_set]; exact h6)]
    rw [e] at h
    have h3 := congrArg (fun l : List Nat => l[i]?) h
    simp only [List.getElem?_set_self hi, List.getElem?_eq_getElem hi, Option.some.injEq] at h3
    exact hne h3.symm
  · have e : (recd p).set i y = (hd p.length ++ be4 (Crc.crc (hd p.length ++ p))) ++ p.set (i - 6) y := by
      rw [hR, List.set_append_right _ _ (by omega), h6]
    have e2 : ((recd p).set i y).drop 6 = p.set (i - 6) y := by rw [e, List.drop_left' h6]
    rw [e2, e] at h
    have hq : recd (p.set (i - 6) y) = (hd p.length ++ be4 (Crc.crc (hd p.length ++ p.set (i - 6) y))) ++ p.set (i - 6) y := by
      unfold recd; rw [List.length_set]
    rw [hq] at h
    have h3 := List.append_inj_left h (by simp [hd, be4])
    have h4 := List.append_inj_right h3 rfl
    have hsm : Small (hd p.length ++ p) := (hd_small (by omega)).append hs
    have hsm2 : Small (hd p.length ++ p.set (i - 6) y) := (hd_small (by omega)).append (hs.set hy)
    have h5 := be4_inj (Crc.crc_lt hsm2) (Crc.crc_lt hsm) h4
    have hdl : (hd p.length).length = 2 := rfl
    have e3 : hd p.length ++ p.set (i - 6) y = (hd p.length ++ p).set (i - 4) y := by
      rw [List.set_append_right _ _ (by omega), hdl, show i - 4 - 2 = i - 6 by omega]
    rw [e3] at h5
    have hil : i - 4 < (hd p.length ++ p).length := by rw [List.length_append, hdl]; omega
    have h7 := crc_one hsm hil hy h5
    apply hne
    rw [h7]
    have g1 : (hd p.length ++ p)[i - 4] = p[i - 6]'(by omega) := by
      rw [List.getElem_append_right (by omega)]
      congr 1
    have g2 : (recd p)[i] = p[i - 6]'(by omega) := by
      have : (recd p)[i]? = p[i - 6]? := by rw [hR, List.getElem?_append_right (by omega), h6]
      rw [List.getElem?_eq_getElem hi, List.getElem?_eq_getElem (by omega)] at this
      simpa using this
    rw [g1, g2]
theorem getd_zero (b : List Nat) : getd b 0 = getx b := by
  have := getd_in (b := b) (j := 0) (Nat.zero_le _)
  simpa using this
theorem scand_err {b : List Nat} {k : Nat} (h : getd b 0 = .err k) : scand b = ([], 0) := scanF_err h
end Go.Proofs.Yteecjdlegnnbmaa
