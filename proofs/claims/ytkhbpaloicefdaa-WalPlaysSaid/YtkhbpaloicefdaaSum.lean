/- frame.Sum: the sum of bytes, by a table. -/
import Derived.Test.YtkhbpaloicefdaaBytes
import Derived.Deep.OwnRows
namespace Go.Proofs.Ytkhbpaloicefdaa
open Go.RowKit
/-- The table, its first j entries made. -/
def TabAt (w : World) (g j : Nat) : Prop := w.rowIs g 74 16 (fun i => if i < j then .int .u32 (Crc.stps 4 i : Nat) else .int .u32 0)
theorem tab_new (w : World) : TabAt (w.alloc (.cells #[.int .u32 0, .int .u32 0, .int .u32 0, .int .u32 0, .int .u32 0, .int .u32 0, .int .u32 0, .int .u32 0, .int .u32 0, .int .u32 0, .int .u32 0, .int .u32 0, .int .u32 0, .int .u32 0, .int .u32 0, .int .u32 0] 74)) w.heap.size 0 := by
  refine World.rowIs_alloc w _ 74 _ fun i hi => ?_
  rw [if_neg (by omega)]
  simp at hi
  match i, hi with
  | 0, _ | 1, _ | 2, _ | 3, _ | 4, _ | 5, _ | 6, _ | 7, _ | 8, _ | 9, _ | 10, _ | 11, _ | 12, _ | 13, _ | 14, _ | 15, _ => rfl
  | n + 16, h => exact absurd h (by omega)
theorem TabAt.next {w : World} {g j : Nat} (h : TabAt w g j) : TabAt (w.setCell ⟨g, j, none⟩ (.int .u32 (Crc.stps 4 j : Nat))) g (j + 1) := by
  refine (World.rowIs.set h j _).congr fun i _ => ?_
  by_cases e : i = j
  · subst e; rw [if_pos rfl, if_pos (by omega)]
  · rw [if_neg e]
    by_cases e2 : i < j
    · rw [if_pos e2, if_pos (by omega)]
    · rw [if_neg e2, if_neg (by omega)]
theorem TabAt.get {w : World} {g : Nat} (h : TabAt w g 16) {i : Nat} (hi : i < 16) : w.cell? ⟨g, i, none⟩ = some (.int .u32 (Crc.stps 4 i : Nat)) := by
  have := World.rowIs.cell h hi
  rwa [if_pos hi] at this
theorem TabAt.any {w : World} {g j : Nat} (h : TabAt w g j) {i : Nat} (hi : i < 16) : ∃ m : Int, w.cell? ⟨g, i, none⟩ = some (.int .u32 m) := by
  have := World.rowIs.cell h hi
  by_cases e : i < j
  · rw [if_pos e] at this; exact ⟨_, this⟩
  · rw [if_neg e] at this; exact ⟨_, this⟩
theorem sum_round (s x : Nat) (hs : s < 4294967296) (hx : x < 256) : ∃ a i p b j q d : Nat, bits .xor .u32 (s : Int) (x : Int) = (a : Int) ∧ bits .and .u32 (a : Int) 15 = (i : Int) ∧ i < 16 ∧ p = Crc.stps 4 i ∧ bits .xor .u32 (p : Int) ((a : Int) / 16) = (b : Int) ∧
    bits .and .u32 (b : Int) 15 = (j : Int) ∧ j < 16 ∧ q = Crc.stps 4 j ∧ bits .xor .u32 (q : Int) ((b : Int) / 16) = (d : Int) ∧ d = Crc.byteStep s x ∧ d < 4294967296 ∧ a < 4294967296 ∧ b < 4294967296 := by
  have ha : s ^^^ x < 4294967296 := Nat.xor_lt_two_pow (n := 32) hs (by omega)
  have and15 : ∀ n : Nat, n < 4294967296 → bits .and .u32 (n : Int) 15 = ((n % 16 : Nat) : Int) := by
    intro n hn
    have h := u32_and_nat n 15 hn (by decide)
    have e : n &&& 15 = n % 16 := Nat.and_two_pow_sub_one_eq_mod n 4
    rw [e] at h
    exact h
  have xor16 : ∀ m n : Nat, m < 4294967296 → n < 4294967296 → bits .xor .u32 (m : Int) ((n : Int) / 16) = ((m ^^^ n / 16 : Nat) : Int) := by
    intro m n hm hn
    have h := u32_xor_nat m (n / 16) hm (by omega)
    simpa using h
  have hp : ∀ n : Nat, Crc.stps 4 (n % 16) < 4294967296 := fun n => Crc.stps_lt (by omega)
  have hb : Crc.stps 4 ((s ^^^ x) % 16) ^^^ (s ^^^ x) / 16 < 4294967296 := Nat.xor_lt_two_pow (n := 32) (hp _) (by omega)
  refine ⟨s ^^^ x, (s ^^^ x) % 16, _, Crc.stps 4 ((s ^^^ x) % 16) ^^^ (s ^^^ x) / 16, (Crc.stps 4 ((s ^^^ x) % 16) ^^^ (s ^^^ x) / 16) % 16, _, _, u32_xor_nat s x hs (by omega), and15 _ ha, by omega, rfl, xor16 _ _ (hp _) ha, and15 _ hb, by omega, rfl, xor16 _ _ (hp _) hb, Crc.byte_nibs s x, ?_, ha, hb⟩
  rw [Crc.byte_nibs]
  exact Crc.byteStep_lt hs hx
set_option maxRecDepth 100000 in
set_option maxHeartbeats 1000000 in
theorem sum_any (A : Option Addr) (c B : Nat) (l : List Nat) (w : World) (ha : BytesAt w B A l) (hB : B ≤ w.heap.size) (hs : Small l) (hl : l.length ≤ maxLen) :
    Calls Try.prog 41 #[.slice A l.length c] w fun e w' => e = .returned (.int .u32 (Crc.crc l : Nat)) ∧ Below w.heap.size w w' := by
  unfold maxLen at hl
  go_enter Try.func41, Try.ntmps41
  go_wp2_with fail
  have T0 := tab_new w
  have b0 : Below w.heap.size w (w.alloc (.cells #[.int .u32 0, .int .u32 0, .int .u32 0, .int .u32 0, .int .u32 0, .int .u32 0, .int .u32 0, .int .u32 0, .int .u32 0, .int .u32 0, .int .u32 0, .int .u32 0, .int .u32 0, .int .u32 0, .int .u32 0, .int .u32 0] 74)) := (Below.refl _ _).alloc (Nat.le_refl _) _
  generalize w.alloc (.cells #[.int .u32 0, .int .u32 0, .int .u32 0, .int .u32 0, .int .u32 0, .int .u32 0, .int .u32 0, .int .u32 0, .int .u32 0, .int .u32 0, .int .u32 0, .int .u32 0, .int .u32 0, .int .u32 0, .int .u32 0, .int .u32 0] 74) = w1 at T0 b0 ⊢
  obtain ⟨g, hg⟩ : ∃ g, g = w.heap.size := ⟨_, rfl⟩
  rw [← hg] at T0
  rw [← hg]
  have hgB : w.heap.size ≤ g := by omega
  clear hg
  go_loopw [8] (fun i wr => ∃ j : Nat, j ≤ 16 ∧ i = .int .i64 j ∧ TabAt wr g j ∧ Below w.heap.size w wr) (fun i _ => 16 - (intOf i).toNat)
  case atStart => exact ⟨0, by omega, rfl, T0, b0⟩
  case round =>
    clear T0 b0
    obtain ⟨j, hj, rfl, T, b⟩ := hrel
    by_cases hlt : j < 16
    · go_wp2_with fail
      refine (step_any j 4 (by omega) (by omega) _).mono ?_
      rintro e w2 ⟨rfl, rfl⟩
      obtain ⟨m, hm⟩ := T.any hlt
      have hf := World.rowIs.frozen T j
      go_wp2_with fail
      go_roundw
      case rel => exact ⟨j + 1, by omega, by go_num, T.next, b.setCell hgB _⟩
      case measure => simp [intOf]; omega
    · obtain rfl : j = 16 := by omega
      go_wp2_with fail
      obtain ⟨w5, rfl⟩ : ∃ w5 : World, w5 = wr := ⟨_, rfl⟩
      go_loopw [5, 19] (fun x i wr => ∃ j : Nat, j ≤ l.length ∧ i = .int .i64 j ∧ x = .int .u32 (Crc.run Crc.ones (l.take j) : Nat) ∧ wr = w5) (fun _ i _ => l.length - (intOf i).toNat)
      case atStart => exact ⟨0, Nat.zero_le _, rfl, rfl, rfl⟩
      case round =>
        obtain ⟨j, hj, rfl, rfl, rfl⟩ := hrel
        have hr : Crc.run Crc.ones (l.take j) < 4294967296 := Crc.run_lt (by decide) (hs.take j)
        by_cases hlt : j < l.length
        · obtain ⟨ad, rfl, hc0⟩ := (ha.below (b.mono hB)).get hlt
          have hx := hs.get hlt
          have hnext : Crc.run Crc.ones (l.take (j + 1)) = Crc.byteStep (Crc.run Crc.ones (l.take j)) l[j] := by
            rw [List.take_succ_eq_append_getElem hlt, Crc.run_append]; rfl
          have HN := Lib.hid hnext
          clear hnext
          generalize Crc.run Crc.ones (l.take j) = s at hr HN ⊢
          generalize l[j] = x at hx HN hc0
          obtain ⟨a, i1, p, b1, i2, q, d, ha1, hm1, hi1, hp, hb1, hm2, hi2, hq, hd1, hd2, hd3, ha3, hb3⟩ := sum_round s x hr hx
          have c1 := T.get hi1
          have c2 := T.get hi2
          rw [← hp] at c1
          rw [← hq] at c2
          have HD : Hid (Crc.run Crc.ones (l.take (j + 1)) = d) := Lib.hid (HN.out.trans hd2.symm)
          clear hp hq hd2 HN
          go_wp2_with fail
          go_roundw
          case rel => exact ⟨j + 1, by omega, by go_num, by rw [HD.out], trivial⟩
          case measure => simp [intOf]; omega
        · obtain rfl : j = l.length := by omega
          have hend : Crc.run Crc.ones (l.take l.length) = Crc.run Crc.ones l := by rw [List.take_length]
          rw [hend] at hr ⊢
          have hx : bits .xor .u32 IntKind.u32.max (Crc.run Crc.ones l : Nat) = ((Crc.crc l : Nat) : Int) := by
            have h := u32_xor_nat 4294967295 (Crc.run Crc.ones l) (by decide) hr
            rw [Nat.xor_comm] at h
            exact h
          have HX := Lib.hid hx
          clear hx
          go_wp2_with fail
          go_ret
          exact ⟨congrArg (fun z => Ending.returned (.int .u32 z)) HX.out, b⟩
end Go.Proofs.Ytkhbpaloicefdaa
