/- vokref.Ints and vokref.CopyInts: lists held against one another; a list of its own. -/
import Derived.Test.YtegjpfdbfjfolaaBox
import Derived.Test.YtegjpfdbfjfolaaMem
import Derived.Deep.QuietTactic
import Derived.BigQuiet
namespace Go.Proofs.Ytegjpfdbfjfolaa
open Go.RowKit

theorem vals_get {l : List Int} {k : Nat} {u : Value} (h : (vals l)[k]? = some u) : ∃ n, l[k]? = some n ∧ u = .int .i64 n := by
  unfold vals at h
  rw [List.getElem?_map] at h
  obtain ⟨n, hn, rfl⟩ := Option.map_eq_some_iff.1 h
  exact ⟨n, hn, rfl⟩
/-- A slice value that reads as a list of numbers, below block B. -/
def IntsAt (w : World) (B : Nat) (A : Option Addr) (l : List Int) : Prop := Reads w B 1 A l.length (vals l)
theorem IntsAt.get {w : World} {B : Nat} {A : Option Addr} {l : List Int} (h : IntsAt w B A l) {k : Nat} (hk : k < l.length) : ∃ ad, A = some ad ∧ w.cell? (ad.add k) = some (.int .i64 l[k]) := by
  obtain ⟨ad, u, hA, _, hx, hc⟩ := h.at_ hk
  obtain ⟨n, hn, rfl⟩ := vals_get hx
  rw [List.getElem?_eq_getElem hk] at hn
  injection hn with hn
  subst hn
  exact ⟨ad, hA, hc⟩
theorem take_next {l k : List Int} {i : Nat} (h : l.take i = k.take i) (h1 : i < l.length) (h2 : i < k.length) (he : l[i] = k[i]) : l.take (i + 1) = k.take (i + 1) := by
  rw [List.take_succ_eq_append_getElem h1, List.take_succ_eq_append_getElem h2, h, he]

theorem ret_bool {a b : Bool} (h : a = b) : Ending.returned (.bool a) = .returned (.bool b) := by rw [h]
theorem drew2 (w : World) (n k : Nat) : ∃ m, (w.drewN n).drewN k = w.drewN m := ⟨_, World.drewN_drewN _ _ _⟩
set_option maxHeartbeats 400000 in
theorem ints_same (A A' : Option Addr) (c c' B B' : Nat) (l k : List Int) (w : World) (ha : IntsAt w B A l) (hb : IntsAt w B' A' k) (hl : l.length ≤ 140737488355328) (hlen : l.length = k.length) :
    Calls Try.prog 18 #[.slice A l.length c, .slice A' k.length c'] w fun e w' => e = .returned (.bool (decide (l = k))) ∧ ∃ n, w' = w.drewN n := by
  have hne : ((l.length : Int) != (k.length : Int)) = false := by rw [hlen]; simp
  have HL := Lib.hid hlen
  have hle : l.length ≤ k.length := by omega
  clear hlen
  go_enter Try.func18, Try.ntmps18
  go_wp2
  go_loopw [5] (fun i wr => ∃ j : Nat, j ≤ l.length ∧ i = .int .i64 j ∧ l.take j = k.take j ∧ ∃ n, wr = w.drewN n) (fun i _ => l.length - (intOf i).toNat)
  case atStart => exact ⟨0, Nat.zero_le _, rfl, by simp, 0, rfl⟩
  case round =>
    obtain ⟨j, hj, rfl, ht, n, rfl⟩ := hrel
    have HT := Lib.hid ht
    clear ht
    by_cases hlt : j < l.length
    · obtain ⟨ad, rfl, hc⟩ := ha.get hlt
      have hlk : j < k.length := by omega
      obtain ⟨ad', rfl, hc'⟩ := hb.get hlk
      by_cases he : l[j] = k[j]
      · have hb1 : (l[j] != k[j]) = false := by rw [he]; simp
        have HE := Lib.hid he
        clear he
        go_wp2
        go_quiet (fail)
        go_wp2
        go_roundw
        case rel => exact ⟨j + 1, by omega, by go_num, take_next HT.out hlt hlk HE.out, _, rfl⟩
        case measure => simp [intOf]; omega
      · have hb1 : (l[j] != k[j]) = true := by simpa using he
        have HE := Lib.hid he
        clear he
        go_wp2
        go_quiet (fail)
        go_wp2
        go_ret
        have : ¬ l = k := by
          intro e; subst e; exact HE.out rfl
        exact ⟨ret_bool (decide_eq_false this).symm, drew2 _ _ _⟩
    · have hj' : j = l.length := by omega
      have HJ := Lib.hid hj'
      clear hj'
      go_wp2
      go_ret
      have : l = k := by
        have h := HT.out
        rw [List.take_of_length_le (by omega), List.take_of_length_le (by have := HL.out; omega)] at h
        exact h
      exact ⟨ret_bool (decide_eq_true this).symm, _, rfl⟩
theorem ints_len (A A' : Option Addr) (c c' n m : Nat) (w : World) (h : n ≠ m) :
    Calls Try.prog 18 #[.slice A n c, .slice A' m c'] w fun e w' => e = .returned (.bool false) ∧ w = w' := by
  have hne : ((n : Int) != (m : Int)) = true := by simp; omega
  go_enter Try.func18, Try.ntmps18
  go_wp2
  go_ret
  exact ⟨rfl, rfl⟩
/-- Ints: are two lists alike? -/
theorem ints_any (A A' : Option Addr) (c c' B B' : Nat) (l k : List Int) (w : World) (ha : IntsAt w B A l) (hb : IntsAt w B' A' k) (hl : l.length ≤ 140737488355328) :
    Calls Try.prog 18 #[.slice A l.length c, .slice A' k.length c'] w fun e w' => e = .returned (.bool (decide (l = k))) ∧ ∃ n, w' = w.drewN n := by
  by_cases h : l.length = k.length
  · exact ints_same A A' c c' B B' l k w ha hb hl h
  · refine (ints_len A A' c c' l.length k.length w h).mono fun e w' ⟨he, hw⟩ => ⟨?_, 0, hw.symm⟩
    have : ¬ l = k := fun e => h (by rw [e])
    rw [he, decide_eq_false this]
theorem int_row : (Try.prog.info? 3).map (fun i => (i.zero, i.size, i.bytes)) = some (some (.int .i64 0), 1, 8) := by kernel_rfl
theorem vals_one (l : List Int) : ∀ u ∈ vals l, u.oneCell' = true := by
  intro u hu
  unfold vals at hu
  obtain ⟨n, _, rfl⟩ := List.mem_map.1 hu
  rfl
/-- CopyInts: a list of its own. -/
theorem copy_any (A : Option Addr) (c B : Nat) (l : List Int) (w : World) (ha : IntsAt w B A l) (hl : l.length ≤ 1000000) :
    Calls Try.prog 20 #[.slice A l.length c] w fun e w' => ∃ v, e = .returned v ∧ w'.ownsRow w.heap.size 3 1 v l.length (vals l) ∧ Below w.heap.size w w' := by
  obtain ⟨i0, hi, hz0, hz1, hz2⟩ := info_parts int_row
  have hown := World.ownsRow_made w (base := w.heap.size) (e := 3) (size := 1) #[] 0 (Nat.le_refl _) (by simp [maxLen]) rfl
  have ha' : Reads (w.alloc (.cells #[] 3)) (max B w.heap.size) 1 A l.length (vals l) := ⟨ha.1, fun hn => by
    obtain ⟨ad, e, hb, hc⟩ := ha.2 hn
    refine ⟨ad, e, by omega, fun j u hu => ?_⟩
    have h := hc j u hu
    rw [World.cell?_alloc_lt w _ _ (World.block_lt_of_cell? w _ h)]
    exact h⟩
  go_enter Try.func20, Try.ntmps20
  go_wp2_with (at_builtin; refine wpList_append_any _ rfl (.tmp 3) (.tmp 4) _ rfl w.heap.size 3 i0 _ 1 8 Try.underlying22 hi hz0 hz1 hz2 rfl (by omega) (.slice (some ⟨w.heap.size, 0, none⟩) 0 0) 0 [] rfl hown (max B w.heap.size) A l.length c (vals l) rfl ha' (vals_one l) (by simp only [maxLen]; omega) (by omega) (by simp) ?_; intro v1 w1 hown1 hg1 hat1)
  go_ret
  refine ⟨v1, rfl, by simpa using hown1, ((Below.refl _ _).alloc (Nat.le_refl _) _).grown hg1 (by simp) (by simp [Value.ownBlock])⟩
end Go.Proofs.Ytegjpfdbfjfolaa
