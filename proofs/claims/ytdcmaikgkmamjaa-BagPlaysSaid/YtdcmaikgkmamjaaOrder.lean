/- BagOrder: the walk. -/
import Derived.Test.YtdcmaikgkmamjaaFew
namespace Go.Proofs.Ytdcmaikgkmamjaa
open Go.RowKit
set_option linter.unusedVariables false
attribute [local go_sem ↓] Go.wp_at_zero Go.wp_at_succ
/-- The messages of calls. -/
def msgs (L : List Op) : List (List Nat) := L.map fun o => o.b
theorem msgs_length (L : List Op) : (msgs L).length = L.length := by simp [msgs]
theorem msgs_get {L : List Op} {j : Nat} (h : j < L.length) : (msgs L)[j]'(by rw [msgs_length]; exact h) = L[j].b := by simp [msgs]
theorem msgs_next {L : List Op} {j : Nat} (h : j < L.length) : (msgs L).take (j + 1) = (msgs L).take j ++ [L[j].b] := by
  rw [List.take_succ_eq_append_getElem (by rw [msgs_length]; exact h), msgs_get h]
theorem msgs_drop {L : List Op} {M j : Nat} (h : j < M) (hM : M ≤ L.length) : ((msgs L).take M).drop j = L[j].b :: ((msgs L).take M).drop (j + 1) := by
  have h1 : j < ((msgs L).take M).length := by rw [List.length_take, msgs_length]; omega
  rw [List.drop_eq_getElem_cons h1, List.getElem_take, msgs_get]
theorem msgs_small {L : List Op} (hT : total L ≤ 20000) : ∀ l ∈ msgs L, l.length ≤ 20000 := by
  intro l hl
  obtain ⟨o, ho, rfl⟩ := List.mem_map.1 hl
  obtain ⟨k, hk, rfl⟩ := List.mem_iff_getElem.1 ho
  exact Nat.le_trans (total_one hk) hT
/-- The bytes of a call, in memory. -/
structure CallAt (w : World) (B : Nat) (ad : Addr) (j : Nat) (A : Option Addr) (c : Nat) (o : Op) : Prop where
  low : (ad.add (j * 3)).block < B
  k : w.cell? (ad.add (j * 3)) = some (.int .i64 o.k)
  n : w.cell? ⟨(ad.add (j * 3)).block, (ad.add (j * 3)).off + 1, none⟩ = some (.int .i64 o.n)
  b : w.cell? ⟨(ad.add (j * 3)).block, (ad.add (j * 3)).off + 2, none⟩ = some (.slice A o.b.length c)
  bytes : BytesAt w B A o.b
  room : Room A o.b.length c
  small : Small o.b
theorem OpsAt.call {w : World} {B : Nat} {A : Option Addr} {L : List Op} (h : OpsAt w B A L) {j : Nat} (hj : j < L.length) : ∃ ad A' c', A = some ad ∧ CallAt w B ad j A' c' L[j] := by
  obtain ⟨ad, A', c', e, hB, h1, h2, h3, h4, h5⟩ := h.at_ j hj
  exact ⟨ad, A', c', e, hB, h1, h2, h3, h4, h5, (h.fit L[j] (List.getElem_mem hj)).1⟩
theorem CallAt.below {w w' : World} {B j c : Nat} {ad : Addr} {A : Option Addr} {o : Op} (h : CallAt w B ad j A c o) (hb : Below B w w') : CallAt w' B ad j A c o :=
  ⟨h.low, (hb.cell h.low).trans h.k, (hb.cell (by exact h.low)).trans h.n, (hb.cell (by exact h.low)).trans h.b, h.bytes.below hb, h.room, h.small⟩
set_option maxRecDepth 100000 in
set_option maxHeartbeats 8000000 in
theorem order_law (size : Int) (A : Option Addr) (c B : Nat) (L : List Op) (w : World) (ha : OpsAt w B A L) (hB : B ≤ w.heap.size) (hl : L.length ≤ maxLen) :
    Calls Try.prog 4 #[.int .i64 size, .slice A L.length c] w fun e w' => e = .returned (.bool true) ∧ Below w.heap.size w w' := by
  have hl' := hl
  unfold maxLen at hl'
  by_cases hsz : 1 ≤ size ∧ size ≤ 10000
  · obtain ⟨n, rfl⟩ := Int.eq_ofNat_of_zero_le (show 0 ≤ size by omega)
    have n1 : 1 ≤ n := by omega
    have n2 : n ≤ 10000 := by omega
    go_enter Try.func4, Try.ntmps4
    go_wp2_with fail
    refine (first_any _).mono ?_
    rintro e w1 ⟨rfl, b1⟩
    go_wp2_with fail
    refine (new_yes n (by omega) (by omega) _).mono ?_
    rintro e w2 ⟨rfl, rfl⟩
    have D0 := BagAt.new_ (T := 49) (base := w.heap.size) w1 n (.inl rfl) b1.size
    have b0 := b1.alloc b1.size (.cells #[.int .i64 n, .int .i64 0, .slice none 0 0] 49)
    obtain ⟨d, hd⟩ : ∃ d, d = w1.heap.size := ⟨_, rfl⟩
    have hD : BagAt 49 w.heap.size (w1.alloc (.cells #[.int .i64 n, .int .i64 0, .slice none 0 0] 49)) d n 0 (.slice none 0 0) [] [] := by rw [hd]; exact D0
    rw [← hd]
    have HD := Lib.hid hd
    clear hd b1 D0 hsz
    generalize w1.alloc (.cells #[.int .i64 n, .int .i64 0, .slice none 0 0] 49) = w2 at hD b0 ⊢
    have hF := few_any A c B L w2 (ha.below (b0.mono hB)) hl
    go_wp2_with fail
    refine hF.mono ?_
    clear hF
    rintro e w3 ⟨t, rfl, rfl, ht⟩
    cases t with
    | false =>
      clear ht hD
      go_wp2_with fail
      refine (first_any _).mono ?_
      rintro e w3 ⟨rfl, b3⟩
      replace b3 := b0.trans (b3.mono b0.size)
      clear b0
      go_wp2_with fail
      go_ret
      exact ⟨rfl, b3⟩
    | true =>
      obtain ⟨hl2, hT⟩ := ht rfl
      clear ht
      go_wp2_with fail
      go_loopw [7] (fun iv wr => ∃ (j : Nat) (v : Value) (xs : List Value), j ≤ L.length ∧ iv = .int .i64 j ∧ BagAt 49 w.heap.size wr d n ((j - min j n : Nat) : Int) v xs ((msgs L).take (min j n)) ∧ Below w.heap.size w wr) (fun iv _ => L.length - (intOf iv).toNat)
      case atStart => exact ⟨0, _, _, Nat.zero_le _, rfl, by simpa using hD, b0⟩
      case round =>
        clear hD b0
        obtain ⟨j, v, xs, hj, rfl, D, b⟩ := hrel
        by_cases hlt : j < L.length
        · obtain ⟨ad, A1, c1, rfl, C0⟩ := ha.call hlt
          have C := C0.below (b.mono hB)
          have hc2 := C.b
          have tot := Nat.le_trans (total_one hlt) hT
          rcases Nat.lt_or_ge j n with hjn | hjn
          · have hm : min j n = j := Nat.min_eq_left (by omega)
            have hm2 : min (j + 1) n = j + 1 := Nat.min_eq_left (by omega)
            rw [hm] at D
            have HM := Lib.hid hm2
            have HNX := Lib.hid (msgs_next hlt)
            have hkl : ((msgs L).take j).length = j := by rw [List.length_take, msgs_length]; omega
            have P := put_yes D b.size (by rw [hkl]; omega) (by rw [hkl]; omega) C.bytes (Nat.le_trans hB b.size) C.room C.small (by omega)
            clear hm hm2 hkl
            go_wp2_with fail
            refine P.mono ?_
            clear P
            rintro e w4 ⟨v4, u4, rfl, T4⟩
            have D4 := T4.bag
            rw [← HNX.out] at D4
            have b4 := T4.below D b b.size
            clear T4 D b C C0 hc2
            go_wp2_with fail
            go_roundw
            case rel => exact ⟨j + 1, _, _, by omega, by go_num, by rw [HM.out]; simpa using D4, b4⟩
            case measure => simp [intOf]; omega
          · have hm : min j n = n := Nat.min_eq_right (by omega)
            have hm2 : min (j + 1) n = n := Nat.min_eq_right (by omega)
            rw [hm] at D
            have HM := Lib.hid hm2
            have hkl : ((msgs L).take n).length = n := by rw [List.length_take, msgs_length]; omega
            have P := put_full D (by rw [hkl]; omega) (by rw [hkl]; omega) (by omega) (by omega) A1 L[j].b.length c1
            clear hm hm2 hkl
            go_wp2_with fail
            refine P.mono ?_
            clear P
            rintro e w4 ⟨rfl, T4⟩
            have D4 := T4.bag
            have b4 := T4.below D b b.size
            clear T4 D b C C0 hc2
            go_wp2_with fail
            go_roundw
            case rel => exact ⟨j + 1, _, _, by omega, by go_num, by rw [HM.out, show ((j + 1 - n : Nat) : Int) = ((j - n : Nat) : Int) + 1 by omega]; exact D4, b4⟩
            case measure => simp [intOf]; omega
        · obtain rfl : j = L.length := by omega
          have C0 : ∃ M lost : Nat, M ≤ L.length ∧ ((L.length ≤ n ∧ M = L.length ∧ lost = 0) ∨ (n < L.length ∧ M = n ∧ lost + n = L.length)) ∧ BagAt 49 w.heap.size wr d n (lost : Int) v xs ((msgs L).take M) := by
            rcases Nat.lt_or_ge n L.length with q | q
            · exact ⟨n, L.length - n, by omega, .inr ⟨q, rfl, by omega⟩, by rw [Nat.min_eq_right (by omega)] at D; exact D⟩
            · exact ⟨L.length, 0, by omega, .inl ⟨q, rfl, rfl⟩, by rw [Nat.min_eq_left (by omega)] at D; simpa using D⟩
          obtain ⟨M, lst, hML, hcase, D1⟩ := C0
          clear D
          have hkl : ((msgs L).take M).length = M := by rw [List.length_take, msgs_length]; omega
          have K1 := lost_any D1
          have K2 := len_any D1
          rw [hkl] at K2
          have HKL := Lib.hid hkl
          clear hkl
          have hc3 : (L.length < n ∧ M = L.length ∧ lst = 0) ∨ (n = L.length ∧ M = L.length ∧ lst = 0) ∨ (n < L.length ∧ M = n ∧ lst + n = L.length) := by omega
          clear hcase
          rcases hc3 with ⟨q, e1, e2⟩ | ⟨q, e1, e2⟩ | ⟨q, e1, e2⟩
          · subst e1 e2
            go_wp2_with fail
            refine K1.mono ?_
            clear K1
            rintro e w4 ⟨rfl, rfl⟩
            go_wp2_with fail
            refine K2.mono ?_
            clear K2
            rintro e w4 ⟨rfl, rfl⟩
            go_wp2_with fail
            go_loopw [8] (fun iv wr => ∃ (j : Nat) (v : Value) (xs : List Value), j ≤ L.length ∧ iv = .int .i64 j ∧ BagAt 49 w.heap.size wr d (n : Nat) (0 : Nat) v xs (((msgs L).take L.length).drop j) ∧ Below w.heap.size w wr) (fun iv _ => L.length - (intOf iv).toNat)
            case atStart => exact ⟨0, _, _, Nat.zero_le _, rfl, by simpa using D1, b⟩
            case round =>
              clear D1 b
              obtain ⟨j, v, xs, hj, rfl, D, b⟩ := hrel
              by_cases hlt : j < L.length
              · have hjl : j < L.length := Nat.lt_of_lt_of_le hlt hML
                have hdr := msgs_drop hlt hML
                have hrl : (((msgs L).take L.length).drop (j + 1)).length ≤ 20000 := by rw [List.length_drop, List.length_take, msgs_length]; omega
                rw [hdr] at D
                generalize hR : ((msgs L).take L.length).drop (j + 1) = R at D hrl
                have HR := Lib.hid hR
                clear hR hdr
                obtain ⟨ad, A1, c1, rfl, C0⟩ := ha.call hjl
                have tot := Nat.le_trans (total_one hjl) hT
                have P : Calls Try.prog 15 #[.pointer (some ⟨d, 0, none⟩), .int .i64 0] wr fun e w' => ∃ A' c' v', e = .returned (.tuple #[.slice A' L[j].b.length c', .bool true]) ∧ RowIs w' (.slice A' L[j].b.length c') L[j].b ∧ Turn 49 w.heap.size wr w' d v xs (n : Nat) (0 : Nat) v' (xs.take 0 ++ xs.drop (0 + 1)) R := take_yes (i := 0) D (by simp) (by simp; omega) (by simp; omega)
                go_wp2_with fail
                refine P.mono ?_
                clear P
                rintro e w5 ⟨A5, c5, v5, rfl, R5, T5⟩
                have D5 := T5.bag
                have b5 := T5.below D b b.size
                have C := C0.below (b5.mono hB)
                have hc2 := C.b
                have Q := bytes_any A5 A1 c5 c1 _ _ L[j].b L[j].b w5 R5.bytes.1 C.bytes C.small C.small
                rw [decide_eq_true rfl] at Q
                clear T5 D b R5 C0
                go_wp2_with fail
                refine Q.mono ?_
                clear Q
                rintro e w6 ⟨rfl, rfl⟩
                go_wp2_with fail
                go_roundw
                case rel => exact ⟨j + 1, _, _, by omega, by go_num, by rw [HR.out]; exact D5, b5⟩
                case measure => simp [intOf]; omega
              · have hz : ((msgs L).take L.length).drop j = [] := List.drop_eq_nil_of_le (by rw [List.length_take, msgs_length]; omega)
                rw [hz] at D
                have P := take_no (i := 0) D (.inr (by simp)) (by simp)
                clear hz D
                go_wp2_with fail
                refine P.mono ?_
                clear P
                rintro e w5 ⟨rfl, rfl⟩
                go_wp2_with fail
                refine (first_any _).mono ?_
                rintro e w6 ⟨rfl, b6⟩
                replace b6 := b.trans (b6.mono b.size)
                clear b
                go_wp2_with fail
                go_ret
                exact ⟨rfl, b6⟩
          · subst q e1 e2
            go_wp2_with fail
            refine K1.mono ?_
            clear K1
            rintro e w4 ⟨rfl, rfl⟩
            go_wp2_with fail
            refine K2.mono ?_
            clear K2
            rintro e w4 ⟨rfl, rfl⟩
            go_wp2_with fail
            go_loopw [8] (fun iv wr => ∃ (j : Nat) (v : Value) (xs : List Value), j ≤ L.length ∧ iv = .int .i64 j ∧ BagAt 49 w.heap.size wr d (L.length : Nat) (0 : Nat) v xs (((msgs L).take L.length).drop j) ∧ Below w.heap.size w wr) (fun iv _ => L.length - (intOf iv).toNat)
            case atStart => exact ⟨0, _, _, Nat.zero_le _, rfl, by simpa using D1, b⟩
            case round =>
              clear D1 b
              obtain ⟨j, v, xs, hj, rfl, D, b⟩ := hrel
              by_cases hlt : j < L.length
              · have hjl : j < L.length := Nat.lt_of_lt_of_le hlt hML
                have hdr := msgs_drop hlt hML
                have hrl : (((msgs L).take L.length).drop (j + 1)).length ≤ 20000 := by rw [List.length_drop, List.length_take, msgs_length]; omega
                rw [hdr] at D
                generalize hR : ((msgs L).take L.length).drop (j + 1) = R at D hrl
                have HR := Lib.hid hR
                clear hR hdr
                obtain ⟨ad, A1, c1, rfl, C0⟩ := ha.call hjl
                have tot := Nat.le_trans (total_one hjl) hT
                have P : Calls Try.prog 15 #[.pointer (some ⟨d, 0, none⟩), .int .i64 0] wr fun e w' => ∃ A' c' v', e = .returned (.tuple #[.slice A' L[j].b.length c', .bool true]) ∧ RowIs w' (.slice A' L[j].b.length c') L[j].b ∧ Turn 49 w.heap.size wr w' d v xs (L.length : Nat) (0 : Nat) v' (xs.take 0 ++ xs.drop (0 + 1)) R := take_yes (i := 0) D (by simp) (by simp; omega) (by simp; omega)
                go_wp2_with fail
                refine P.mono ?_
                clear P
                rintro e w5 ⟨A5, c5, v5, rfl, R5, T5⟩
                have D5 := T5.bag
                have b5 := T5.below D b b.size
                have C := C0.below (b5.mono hB)
                have hc2 := C.b
                have Q := bytes_any A5 A1 c5 c1 _ _ L[j].b L[j].b w5 R5.bytes.1 C.bytes C.small C.small
                rw [decide_eq_true rfl] at Q
                clear T5 D b R5 C0
                go_wp2_with fail
                refine Q.mono ?_
                clear Q
                rintro e w6 ⟨rfl, rfl⟩
                go_wp2_with fail
                go_roundw
                case rel => exact ⟨j + 1, _, _, by omega, by go_num, by rw [HR.out]; exact D5, b5⟩
                case measure => simp [intOf]; omega
              · have hz : ((msgs L).take L.length).drop j = [] := List.drop_eq_nil_of_le (by rw [List.length_take, msgs_length]; omega)
                rw [hz] at D
                have P := take_no (i := 0) D (.inr (by simp)) (by simp)
                clear hz D
                go_wp2_with fail
                refine P.mono ?_
                clear P
                rintro e w5 ⟨rfl, rfl⟩
                go_wp2_with fail
                refine (first_any _).mono ?_
                rintro e w6 ⟨rfl, b6⟩
                replace b6 := b.trans (b6.mono b.size)
                clear b
                go_wp2_with fail
                go_ret
                exact ⟨rfl, b6⟩
          · obtain rfl := e1
            have hlst1 : lst + M ≤ L.length := by omega
            have hlst2 : L.length ≤ lst + M := by omega
            clear e2
            go_wp2_with fail
            refine K1.mono ?_
            clear K1
            rintro e w4 ⟨rfl, rfl⟩
            go_wp2_with fail
            refine K2.mono ?_
            clear K2
            rintro e w4 ⟨rfl, rfl⟩
            go_wp2_with fail
            go_loopw [8] (fun iv wr => ∃ (j : Nat) (v : Value) (xs : List Value), j ≤ M ∧ iv = .int .i64 j ∧ BagAt 49 w.heap.size wr d (M : Nat) (lst : Nat) v xs (((msgs L).take M).drop j) ∧ Below w.heap.size w wr) (fun iv _ => M - (intOf iv).toNat)
            case atStart => exact ⟨0, _, _, Nat.zero_le _, rfl, by simpa using D1, b⟩
            case round =>
              clear D1 b
              obtain ⟨j, v, xs, hj, rfl, D, b⟩ := hrel
              by_cases hlt : j < M
              · have hjl : j < L.length := Nat.lt_of_lt_of_le hlt hML
                have hdr := msgs_drop hlt hML
                have hrl : (((msgs L).take M).drop (j + 1)).length ≤ 20000 := by rw [List.length_drop, List.length_take, msgs_length]; omega
                rw [hdr] at D
                generalize hR : ((msgs L).take M).drop (j + 1) = R at D hrl
                have HR := Lib.hid hR
                clear hR hdr
                obtain ⟨ad, A1, c1, rfl, C0⟩ := ha.call hjl
                have tot := Nat.le_trans (total_one hjl) hT
                have P : Calls Try.prog 15 #[.pointer (some ⟨d, 0, none⟩), .int .i64 0] wr fun e w' => ∃ A' c' v', e = .returned (.tuple #[.slice A' L[j].b.length c', .bool true]) ∧ RowIs w' (.slice A' L[j].b.length c') L[j].b ∧ Turn 49 w.heap.size wr w' d v xs (M : Nat) (lst : Nat) v' (xs.take 0 ++ xs.drop (0 + 1)) R := take_yes (i := 0) D (by simp) (by simp; omega) (by simp; omega)
                go_wp2_with fail
                refine P.mono ?_
                clear P
                rintro e w5 ⟨A5, c5, v5, rfl, R5, T5⟩
                have D5 := T5.bag
                have b5 := T5.below D b b.size
                have C := C0.below (b5.mono hB)
                have hc2 := C.b
                have Q := bytes_any A5 A1 c5 c1 _ _ L[j].b L[j].b w5 R5.bytes.1 C.bytes C.small C.small
                rw [decide_eq_true rfl] at Q
                clear T5 D b R5 C0
                go_wp2_with fail
                refine Q.mono ?_
                clear Q
                rintro e w6 ⟨rfl, rfl⟩
                go_wp2_with fail
                go_roundw
                case rel => exact ⟨j + 1, _, _, by omega, by go_num, by rw [HR.out]; exact D5, b5⟩
                case measure => simp [intOf]; omega
              · have hz : ((msgs L).take M).drop j = [] := List.drop_eq_nil_of_le (by rw [List.length_take, msgs_length]; omega)
                rw [hz] at D
                have P := take_no (i := 0) D (.inr (by simp)) (by simp)
                clear hz D
                go_wp2_with fail
                refine P.mono ?_
                clear P
                rintro e w5 ⟨rfl, rfl⟩
                go_wp2_with fail
                refine (first_any _).mono ?_
                rintro e w6 ⟨rfl, b6⟩
                replace b6 := b.trans (b6.mono b.size)
                clear b
                go_wp2_with fail
                go_ret
                exact ⟨rfl, b6⟩
  · rcases (show size < 1 ∨ (¬ size < 1 ∧ 10000 < size) by omega) with q | ⟨q, q2⟩
    all_goals
      go_enter Try.func4, Try.ntmps4
      go_wp2_with fail
      refine (first_any _).mono ?_
      rintro e w1 ⟨rfl, b1⟩
      go_wp2_with fail
      refine (new_no size hsz _).mono ?_
      rintro e w2 ⟨rfl, rfl⟩
      go_wp2_with fail
      refine (first_any _).mono ?_
      rintro e w3 ⟨rfl, b3⟩
      replace b3 := b1.trans (b3.mono b1.size)
      clear b1
      go_wp2_with fail
      go_ret
      exact ⟨rfl, b3⟩
end Go.Proofs.Ytdcmaikgkmamjaa
