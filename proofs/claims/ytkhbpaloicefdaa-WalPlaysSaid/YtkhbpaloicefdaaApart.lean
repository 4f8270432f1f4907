/- FrameApart: a record is found at its place: the walk. -/
import Derived.Test.YtkhbpaloicefdaaGet
namespace Go.Proofs.Ytkhbpaloicefdaa
open Go.RowKit
set_option linter.unusedVariables false
theorem Own.room {w : World} {base n c : Nat} {A : Option Addr} {l : List Nat} (h : Own w base (.slice A n c) l) : Room A n c := by
  rcases h.2 with ⟨e, _⟩ | ⟨g, cp, cur, e, _, _, hn, hm, _⟩
  · injection e with e1 e2 e3
    subst e1 e2 e3
    exact ⟨Nat.le_refl _, by simp⟩
  · injection e with e1 e2 e3
    subst e1 e2 e3
    exact ⟨hn, hm⟩
theorem recd_num (p b : List Nat) (h : p.length < 65536) : numAt (recd p ++ b) = p.length := by
  have e : recd p ++ b = p.length / 256 :: p.length % 256 :: (be4 (Crc.crc (hd p.length ++ p)) ++ p ++ b) := by simp [recd, hd]
  rw [e]
  show p.length / 256 * 256 + p.length % 256 = p.length
  omega
theorem recd_drop (p b : List Nat) : (recd p ++ b).drop 6 = p ++ b := by
  simp [recd, hd, be4]
theorem getx_recd {p : List Nat} (b : List Nat) (h : p.length ≤ 8192) : getx (recd p ++ b) = .ok p := by
  have hn := recd_num p b (by omega)
  have hl : (recd p ++ b).length = p.length + 6 + b.length := by rw [List.length_append, recd_length]
  have h2 : ((recd p ++ b).drop 6).take p.length = p := by rw [recd_drop, List.take_append_of_le_length (Nat.le_refl _), List.take_length]
  have h3 : (recd p ++ b).take (6 + p.length) = recd p := by
    rw [List.take_append_of_le_length (by rw [recd_length]; omega), List.take_of_length_le (by rw [recd_length]; omega)]
  rw [getx_ok (by omega) (by omega) (by omega) (by rw [hn, h2, h3]), hn, h2]
theorem getd_recd {p : List Nat} (a b : List Nat) (h : p.length ≤ 8192) : getd (a ++ recd p ++ b) (a.length : Int) = .ok p := by
  rw [getd_in (by simp), List.append_assoc, List.drop_left]
  exact getx_recd b h
theorem bytes_same (A A' : Option Addr) (c c' B B' : Nat) (l : List Nat) (w : World) (ha : BytesAt w B A l) (hb : BytesAt w B' A' l) (sl : Small l) :
    Calls Try.prog 21 #[.slice A l.length c, .slice A' l.length c'] w fun e w' => e = .returned (.bool true) ∧ w = w' :=
  (bytes_any A A' c c' B B' l l w ha hb sl sl).mono fun e w' ⟨he, hw⟩ => ⟨by rw [he]; simp, hw⟩
/-- Get, of a row of one's own. -/
theorem get_own {base c : Nat} {A : Option Addr} {l : List Nat} {w : World} (O : Own w base (.slice A l.length c) l) (hs : Small l) (i : Int) (hi1 : -9223372036854775808 ≤ i) (hi2 : i ≤ 9223372036854775807) {g : Got} (hg : getd l i = g) :
    Calls Try.prog 47 #[.slice A l.length c, .int .i64 i] w fun e w' => Told w g i e w' := by
  subst hg
  exact get_any A c _ l i w O.reads (Nat.le_refl _) hs O.room hi1 hi2
end Go.Proofs.Ytkhbpaloicefdaa
