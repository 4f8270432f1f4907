/- vokref1.digits, vokref1.number. -/
import Derived.Test.YtkeeocidinnnnaaDoorMem
namespace Go.Proofs.YtkeeocidinnnnaaDoor
open Go.RowKit
set_option linter.unusedVariables false
theorem strOf_toArray (l : List Nat) : strOf l = ⟨(l.map fun n => UInt8.ofNat n).toArray⟩ := by
  unfold strOf strOfNums
  simp
set_option maxRecDepth 100000 in
set_option maxHeartbeats 4000000 in
theorem rdigits_any (n0 : Int) (k : Nat) (K : Int) (hK : K = (k : Int)) (h0 : 0 ≤ n0) (h1 : n0 ≤ 1000000000) (hk : k ≤ 100) (w : World) :
    Calls Tryd.prog 35 #[.int .i64 n0, .int .i64 K] w fun e w' => e = .returned (.string ⟨(fx k n0.toNat).toArray⟩) ∧ Below w.heap.size w w' := by
  obtain ⟨i0, hi, hz0, hz1, hz2⟩ := info_parts byte_row
  go_enter Tryd.func35, Tryd.ntmps35
  go_wp2_with fail
  go_loopw [0, 5, 6] (fun nv ov iv wr => ∃ (i r m : Nat) (L : List Nat) (A : Option Addr) (cp : Nat), i + r = k ∧ nv = .int .i64 (m : Int) ∧ m ≤ 1000000000 ∧ iv = .int .i64 (i : Int) ∧ ov = .slice A L.length cp ∧ Own wr w.heap.size (.slice A L.length cp) L ∧ L.length = i ∧ fx k n0.toNat = fx r m ++ L.map (fun n => UInt8.ofNat n) ∧ Below w.heap.size w wr) (fun nv ov iv _ => k - (intOf iv).toNat)
  case atStart => exact ⟨0, k, n0.toNat, [], none, 0, by omega, by rw [Int.toNat_of_nonneg h0], by omega, rfl, rfl, World.ownsRow_nil _ _ _ _, rfl, by simp, Below.refl _ _⟩
  case round =>
    obtain ⟨i, r, m, L, A, cp, hir, rfl, hm, rfl, rfl, ho, hL, hfx, b⟩ := hrel
    subst hK
    replace hL := Lib.hid hL
    cases r with
    | zero =>
      obtain rfl : i = k := by omega
      have ht : decide ((i : Int) < (i : Int)) = false := decide_eq_false (by omega)
      have hcv := conv_any cp ho.reads
      rw [show fx 0 m = [] from rfl, List.nil_append] at hfx
      replace hfx := Lib.hid hfx
      go_wp2_with fail
      go_ret
      rw [strOf_toArray, ← hfx.out]
      exact ⟨rfl, b⟩
    | succ r =>
      have ht : decide ((i : Int) < (k : Int)) = true := decide_eq_true (by omega)
      have e1 : Int.tdiv (m : Int) 10 = ((m / 10 : Nat) : Int) := by rw [Int.tdiv_eq_ediv_of_nonneg (by omega)]; omega
      have e2 : Int.tmod (m : Int) 10 = ((m % 10 : Nat) : Int) := by rw [Int.tmod_eq_emod_of_nonneg (by omega)]; omega
      obtain ⟨c, hc⟩ : ∃ c : Nat, 48 + m % 10 = c := ⟨_, rfl⟩
      have hc2 : (48 : Int) + ((m % 10 : Nat) : Int) = (c : Int) := by omega
      have hcu : c ≤ 57 := by omega
      have hw1 : IntKind.i64.wrap (c : Int) = (c : Int) := by simp [IntKind.wrap, IntKind.bits, IntKind.signed]; omega
      have hw2 : IntKind.u8.wrap (c : Int) = (c : Int) := by simp [IntKind.wrap, IntKind.bits, IntKind.signed]; omega
      have hw3 : IntKind.i64.wrap ((m / 10 : Nat) : Int) = ((m / 10 : Nat) : Int) := by simp [IntKind.wrap, IntKind.bits, IntKind.signed]; omega
      have hfx2 := Lib.hid (show fx k n0.toNat = fx r (m / 10) ++ (c :: L).map (fun n => UInt8.ofNat n) by
        rw [hfx, fx, List.append_assoc, ← hc]
        rfl)
      generalize hq : m / 10 = q at *
      generalize m % 10 = u at *
      have hq2 : q ≤ 1000000000 := by omega
      have ho1 : (wr.alloc (.cells #[.int .u8 (c : Int)] 5)).ownsRow wr.heap.size 5 1 (.slice (some ⟨wr.heap.size, 0, none⟩) 1 1) 1 [.int .u8 (c : Int)] := World.ownsRow_lit wr #[.int .u8 (c : Int)] 1 (Nat.le_refl _) (by simp [maxLen]) rfl
      have hr : Reads (wr.alloc (.cells #[.int .u8 (c : Int)] 5)) wr.heap.size 1 A L.length (bys L) := Reads.alloc ho.reads (Nat.le_refl _) _
      clear hfx hq
      go_wp2_with (at_builtin; refine wpList_append_any _ rfl (.tmp 16) (.tmp 17) _ rfl wr.heap.size 5 i0 _ 1 1 Tryd.underlying30 hi hz0 hz1 hz2 rfl (by omega) (.slice (some ⟨wr.heap.size, 0, none⟩) 1 1) 1 [.int .u8 (c : Int)] rfl ho1 wr.heap.size A L.length cp (bys L) rfl hr (bys_one L) (by simp only [maxLen]; have := hL.out; omega) (by have := hL.out; omega) (by simp) ?_; intro v1 w1 hown1 hg1 hat1)
      have hoc : Own w1 wr.heap.size v1 (c :: L) := by unfold Own; rw [List.length_cons, Nat.add_comm]; exact hown1
      obtain ⟨A', c', rfl⟩ := hoc.form
      have hb1 : Below w.heap.size w w1 := (b.alloc b.size (.cells #[.int .u8 (c : Int)] 5)).grown hg1 (by have := b.size; simp; omega) (by intro k hk; have := b.size; simp [Value.ownBlock] at hk; omega)
      have hoc2 := hoc.mono b.size
      clear hoc ho1 hr hown1 hg1 hat1 ho b hc2 hw1 hw2 e1 e2
      go_wp2_with fail
      go_roundw
      case rel => exact ⟨i + 1, r, q, c :: L, A', c', by omega, rfl, hq2, by simp, rfl, hoc2, by rw [List.length_cons, hL.out], hfx2.out, hb1⟩
      case measure => simp [intOf]; omega
set_option maxRecDepth 100000 in
set_option maxHeartbeats 4000000 in
theorem rnumber_yes (s : ByteArray) (hs : s.size ≤ 17) (hd : ∀ k, k < s.size → IsDig s k) (w : World) :
    Calls Tryd.prog 37 #[.string s] w fun e w' => e = .returned (.int .i64 (pre s s.size)) ∧ w = w' := by
  go_enter Tryd.func37, Tryd.ntmps37
  go_wp2_with fail
  go_loopw [3, 4] (fun nv kv wr => ∃ j : Nat, j ≤ s.size ∧ nv = .int .i64 (pre s j) ∧ kv = .int .i64 (j : Int) ∧ w = wr) (fun nv kv _ => s.size - (intOf kv).toNat)
  case atStart => exact ⟨0, Nat.zero_le _, rfl, rfl, rfl⟩
  case round =>
    obtain ⟨j, hj, rfl, rfl, rfl⟩ := hrel
    by_cases hlt : j < s.size
    · have i0 : (0 : Int) ≤ (j : Int) := by omega
      have i1 : (j : Int) < (s.size : Int) := by omega
      obtain ⟨p1, p2⟩ := pre_bd j fun i hi => hd i (by omega)
      have p3 := pow_le j (by omega)
      obtain ⟨d1, d2⟩ := hd j hlt hlt
      have hP := Lib.hid (show pre s (j + 1) = 10 * pre s j + ((s[j].toNat : Int) - 48) by simp only [pre, dig]; rw [dif_pos hlt])
      generalize hB : s[j].toNat = b at d1 d2 hP
      have p4 : pre s j ≤ 100000000000000000 := by omega
      clear p2 p3
      generalize hp : pre s j = n at p1 p4 hP ⊢
      have hp := Lib.hid hp
      have t1 : decide ((b : Int) < 48) = false := decide_eq_false (by omega)
      have t2 : decide ((57 : Int) < (b : Int)) = false := decide_eq_false (by omega)
      go_wp2_with fail
      go_roundw
      case rel => exact ⟨j + 1, by omega, by rw [hP.out], by simp, trivial⟩
      case measure => simp [intOf]; omega
    · obtain rfl : j = s.size := by omega
      have ht : ¬ ((s.size : Int) < (s.size : Int)) := by omega
      go_wp2_with fail
      go_ret
      exact ⟨rfl, rfl⟩
set_option maxRecDepth 100000 in
set_option maxHeartbeats 4000000 in
theorem rnumber_no (s : ByteArray) (hs : s.size ≤ 17) (k : Nat) (hk : k < s.size) (hn : ¬ IsDig s k) (w : World) :
    Calls Tryd.prog 37 #[.string s] w fun e w' => e = .returned (.int .i64 (-1)) ∧ w = w' := by
  have hn := Lib.hid hn
  go_enter Tryd.func37, Tryd.ntmps37
  go_wp2_with fail
  go_loopw [3, 4] (fun nv kv wr => ∃ j : Nat, j ≤ k ∧ nv = .int .i64 (pre s j) ∧ kv = .int .i64 (j : Int) ∧ (∀ i, i < j → IsDig s i) ∧ w = wr) (fun nv kv _ => s.size - (intOf kv).toNat)
  case atStart => exact ⟨0, Nat.zero_le _, rfl, rfl, fun i h => absurd h (by omega), rfl⟩
  case round =>
    obtain ⟨j, hj, rfl, rfl, hall, rfl⟩ := hrel
    have hlt : j < s.size := by omega
    have i0 : (0 : Int) ≤ (j : Int) := by omega
    have i1 : (j : Int) < (s.size : Int) := by omega
    by_cases hd : IsDig s j
    · have hjk : j < k := by
        rcases Nat.lt_or_eq_of_le hj with h | rfl
        · exact h
        · exact absurd hd hn.out
      have hall2 := Lib.hid (show ∀ i, i < j + 1 → IsDig s i from fun i h => by
        rcases Nat.lt_or_eq_of_le (Nat.le_of_lt_succ h) with h | rfl
        · exact hall i h
        · exact hd)
      obtain ⟨p1, p2⟩ := pre_bd j hall
      have p3 := pow_le j (by omega)
      obtain ⟨d1, d2⟩ := hd hlt
      have hP := Lib.hid (show pre s (j + 1) = 10 * pre s j + ((s[j].toNat : Int) - 48) by simp only [pre, dig]; rw [dif_pos hlt])
      clear hall hd
      generalize hB : s[j].toNat = b at d1 d2 hP
      have p4 : pre s j ≤ 100000000000000000 := by omega
      clear p2 p3
      generalize hp : pre s j = n at p1 p4 hP ⊢
      have hp := Lib.hid hp
      have t1 : decide ((b : Int) < 48) = false := decide_eq_false (by omega)
      have t2 : decide ((57 : Int) < (b : Int)) = false := decide_eq_false (by omega)
      go_wp2_with fail
      go_roundw
      case rel => exact ⟨j + 1, by omega, by rw [hP.out], by simp, hall2.out, trivial⟩
      case measure => simp [intOf]; omega
    · have hnb : ¬ (48 ≤ s[j].toNat ∧ s[j].toNat ≤ 57) := fun h => hd fun _ => h
      clear hall hd
      generalize hB : s[j].toNat = b at hnb
      generalize pre s j = n
      by_cases q : b < 48
      · have t1 : decide ((b : Int) < 48) = true := decide_eq_true (by omega)
        clear hnb
        go_wp2_with fail
        go_ret
        exact ⟨rfl, rfl⟩
      · have t1 : decide ((b : Int) < 48) = false := decide_eq_false (by omega)
        have t2 : decide ((57 : Int) < (b : Int)) = true := decide_eq_true (by omega)
        clear hnb
        go_wp2_with fail
        go_ret
        exact ⟨rfl, rfl⟩
end Go.Proofs.YtkeeocidinnnnaaDoor
