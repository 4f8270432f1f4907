/- BagTwice: the walk. -/
import Derived.Test.YtdcmaikgkmamjaaOrder
namespace Go.Proofs.Ytdcmaikgkmamjaa
open Go.RowKit
set_option linter.unusedVariables false
attribute [local go_sem ↓] Go.wp_at_zero Go.wp_at_succ
theorem flag_any (t : Bool) (w : World) : Calls Try.prog 13 #[.bool t] w fun e w' => e = .returned (.int .i64 (if t then 1 else 0)) ∧ w = w' := by
  cases t
  all_goals
    go_enter Try.func13, Try.ntmps13
    go_wp2_with fail
    go_ret
    exact ⟨rfl, rfl⟩
/-- The row at a place behind one that was taken. -/
theorem row_behind {M : List (List Nat)} {x : List Nat} {k n : Nat} (hk : k < M.length) (hn : n + 1 < M.length) : ((M ++ [x]).take k ++ (M ++ [x]).drop (k + 1))[n]? = M[if n < k then n else n + 1]? := by
  rw [List.getElem?_append, List.length_take, List.length_append, List.getElem?_take, List.getElem?_drop]
  have h1 : min k (M.length + [x].length) = k := by simp; omega
  rw [h1]
  by_cases h : n < k
  · rw [if_pos h, if_pos h, if_pos h, List.getElem?_append_left (by omega)]
  · rw [if_neg h, if_neg h, show k + 1 + (n - k) = n + 1 by omega, List.getElem?_append_left (by omega)]
set_option maxRecDepth 100000 in
set_option maxHeartbeats 8000000 in
theorem twice_law (A : Option Addr) (c B : Nat) (L : List Op) (i k : Int) (w : World) (ha : OpsAt w B A L) (hB : B ≤ w.heap.size) (hl : L.length ≤ maxLen) :
    Calls Try.prog 3 #[.slice A L.length c, .int .i64 i, .int .i64 k] w fun e w' => e = .returned (.bool true) ∧ Below w.heap.size w w' := by
  have hl' := hl
  unfold maxLen at hl'
  go_enter Try.func3, Try.ntmps3
  go_wp2_with fail
  refine (first_any _).mono ?_
  rintro e w1 ⟨rfl, b1⟩
  go_wp2_with fail
  refine (new_yes 1000 (by omega) (by omega) _).mono ?_
  rintro e w2 ⟨rfl, rfl⟩
  have D0 := BagAt.new_ (T := 49) (base := w.heap.size) w1 1000 (.inl rfl) b1.size
  have b0 := b1.alloc b1.size (.cells #[.int .i64 1000, .int .i64 0, .slice none 0 0] 49)
  obtain ⟨d, hd⟩ : ∃ d, d = w1.heap.size := ⟨_, rfl⟩
  have hD : BagAt 49 w.heap.size (w1.alloc (.cells #[.int .i64 1000, .int .i64 0, .slice none 0 0] 49)) d 1000 0 (.slice none 0 0) [] [] := by rw [hd]; exact D0
  rw [← hd]
  have HD := Lib.hid hd
  clear hd b1 D0
  generalize w1.alloc (.cells #[.int .i64 1000, .int .i64 0, .slice none 0 0] 49) = w2 at hD b0 ⊢
  have hF := few_any A c B L w2 (ha.below (b0.mono hB)) hl
  go_wp2_with fail
  refine hF.mono ?_
  clear hF
  rintro e w3 ⟨t, rfl, rfl, ht⟩
  cases t with
  | false =>
    clear ht hD
    go_wp2_with fail
    refine (first_any _).mono ?_
    rintro e w3 ⟨rfl, b3⟩
    replace b3 := b0.trans (b3.mono b0.size)
    clear b0
    go_wp2_with fail
    go_ret
    exact ⟨rfl, b3⟩
  | true =>
    obtain ⟨hl2, hT⟩ := ht rfl
    clear ht
    go_wp2_with fail
    go_loopw [9] (fun iv wr => ∃ (j : Nat) (v : Value) (xs : List Value), j ≤ L.length ∧ iv = .int .i64 j ∧ BagAt 49 w.heap.size wr d 1000 0 v xs ((msgs L).take j) ∧ Below w.heap.size w wr) (fun iv _ => L.length - (intOf iv).toNat)
    case atStart => exact ⟨0, _, _, Nat.zero_le _, rfl, by simpa using hD, b0⟩
    case round =>
      clear hD b0
      obtain ⟨j, v, xs, hj, rfl, D, b⟩ := hrel
      by_cases hlt : j < L.length
      · obtain ⟨ad, A1, c1, rfl, C0⟩ := ha.call hlt
        have C := C0.below (b.mono hB)
        have hc2 := C.b
        have tot := Nat.le_trans (total_one hlt) hT
        have HNX := Lib.hid (msgs_next hlt)
        have hkl : ((msgs L).take j).length = j := by rw [List.length_take, msgs_length]; omega
        have P := put_yes D b.size (by rw [hkl]; omega) (by rw [hkl]; omega) C.bytes (Nat.le_trans hB b.size) C.room C.small (by omega)
        clear hkl
        go_wp2_with fail
        refine P.mono ?_
        clear P
        rintro e w4 ⟨v4, u4, rfl, T4⟩
        have D4 := T4.bag
        rw [← HNX.out] at D4
        have b4 := T4.below D b b.size
        clear T4 D b C C0 hc2
        go_wp2_with fail
        go_roundw
        case rel => exact ⟨j + 1, _, _, by omega, by go_num, D4, b4⟩
        case measure => simp [intOf]; omega
      · obtain rfl : j = L.length := by omega
        rw [List.take_of_length_le (by rw [msgs_length]; exact Nat.le_refl _)] at D
        have hml := msgs_length L
        have HML := Lib.hid hml
        have hms := msgs_small hT
        clear hml
        rcases (show i < 0 ∨ (0 ≤ i ∧ (L.length : Int) ≤ i) ∨ (0 ≤ i ∧ i < (L.length : Int)) by omega) with q | ⟨q, q2⟩ | ⟨q, q2⟩
        iterate 2
          have P := double_no D (i := i) (by rw [HML.out]; omega) (by rw [HML.out]; omega)
          go_wp2_with fail
          refine P.mono ?_
          clear P
          rintro e w4 ⟨rfl, g4⟩
          have D4 := D.quiet g4
          have b4 := b.grown g4 b.size (by simp)
          have K := len_any D4
          rw [HML.out] at K
          clear D b g4
          go_wp2_with fail
          refine K.mono ?_
          clear K
          rintro e w5 ⟨rfl, rfl⟩
          go_wp2_with fail
          refine (flag_any _ _).mono ?_
          rintro e w5 ⟨rfl, rfl⟩
          go_wp2_with fail
          refine (first_any _).mono ?_
          rintro e w6 ⟨rfl, b6⟩
          replace b6 := b4.trans (b6.mono b4.size)
          clear b4
          go_wp2_with fail
          go_ret
          exact ⟨rfl, b6⟩
        obtain ⟨m, rfl⟩ := Int.eq_ofNat_of_zero_le q
        have hm : m < L.length := by omega
        have hmm : m < (msgs L).length := by rw [HML.out]; exact hm
        have eM : (msgs L)[m] = L[m].b := msgs_get hm
        have P := double_yes D b.size hmm (by rw [HML.out]; omega) (by rw [HML.out]; omega) (by have := hms _ (List.getElem_mem hmm); omega)
        rw [eM] at P
        have HEM := Lib.hid eM
        clear eM
        go_wp2_with fail
        refine P.mono ?_
        clear P
        rintro e w4 ⟨v4, u4, rfl, T4⟩
        have D4 := T4.bag
        have b4 := T4.below D b b.size
        have K := len_any D4
        rw [List.length_append, HML.out] at K
        clear D b T4
        go_wp2_with fail
        refine K.mono ?_
        clear K
        rintro e w5 ⟨rfl, rfl⟩
        go_wp2_with fail
        refine (flag_any _ _).mono ?_
        rintro e w5 ⟨rfl, rfl⟩
        rcases (show k < 0 ∨ (0 ≤ k ∧ (L.length : Int) ≤ k) ∨ (0 ≤ k ∧ k < (L.length : Int)) by omega) with r | ⟨r, r2⟩ | ⟨r, r2⟩
        iterate 2
          go_wp2_with fail
          refine (first_any _).mono ?_
          rintro e w6 ⟨rfl, b6⟩
          replace b6 := b4.trans (b6.mono b4.size)
          clear b4
          go_wp2_with fail
          go_ret
          exact ⟨rfl, b6⟩
        obtain ⟨kk, rfl⟩ := Int.eq_ofNat_of_zero_le r
        have hkk : kk < L.length := by omega
        have hlG : (msgs L ++ [L[m].b]).length = L.length + 1 := by rw [List.length_append, HML.out]; rfl
        have eG : (msgs L ++ [L[m].b])[L.length]'(by omega) = L[m].b := by
          rw [List.getElem_append_right (by rw [HML.out]; exact Nat.le_refl _)]
          simp
        have eT : (msgs L ++ [L[m].b])[kk]'(by omega) = L[kk].b := by rw [List.getElem_append_left (by rw [HML.out]; exact hkk), msgs_get hkk]
        have t1 := Nat.le_trans (total_one hm) hT
        have t2 := Nat.le_trans (total_one hkk) hT
        have P := get_yes D4 (i := L.length) (by omega) (by omega) (by rw [eG]; omega)
        have P2 := fun (w' : World) (v : Value) (xs : List Value) (D : BagAt 49 w.heap.size w' d 1000 0 v xs (msgs L ++ [L[m].b])) => take_yes D (i := kk) (by omega) (by omega) (by rw [eT]; omega)
        rw [eG] at P
        simp only [eT] at P2
        obtain ⟨ad, Am, cm, rfl, Cm⟩ := ha.call hm
        obtain ⟨ad', Ak, ck, ea, Ck⟩ := ha.call hkk
        injection ea with ea
        subst ea
        have HLG := Lib.hid hlG
        have HROW : Hid (∀ n, n + 1 < L.length → ((msgs L ++ [L[m].b]).take kk ++ (msgs L ++ [L[m].b]).drop (kk + 1))[n]? = (msgs L)[if n < kk then n else n + 1]?) := Lib.hid (fun n hn => row_behind (by rw [HML.out]; exact hkk) (by rw [HML.out]; exact hn))
        have HLR : Hid (((msgs L ++ [L[m].b]).take kk ++ (msgs L ++ [L[m].b]).drop (kk + 1)).length = L.length) := Lib.hid (by rw [List.length_append, List.length_take, List.length_drop, hlG]; omega)
        clear eG eT hlG
        go_wp2_with fail
        refine P.mono ?_
        clear P
        rintro e w6 ⟨A6, c6, rfl, O6, b6⟩
        have D6 := D4.quiet (below_quiet2 b6)
        have R6 := RowIs.own O6 Cm.small
        replace b6 := b4.trans (b6.mono b4.size)
        clear D4 O6 b4
        go_wp2_with fail
        refine (P2 _ _ _ D6).mono ?_
        clear P2
        rintro e w7 ⟨A7, c7, v7, rfl, R7, T7⟩
        have D7 := T7.bag
        have b7 := T7.below D6 b6 b6.size
        replace R6 := R6.turn T7 D6
        have Cm7 := Cm.below (b7.mono hB)
        have Ck7 := Ck.below (b7.mono hB)
        have hm2 := Cm7.b
        have hk2 := Ck7.b
        have Q1 := bytes_any A6 Am c6 cm _ _ L[m].b L[m].b w7 R6.bytes.1 Cm7.bytes Cm.small Cm.small
        have Q2 := bytes_any A7 Ak c7 ck _ _ L[kk].b L[kk].b w7 R7.bytes.1 Ck7.bytes Ck.small Ck.small
        rw [decide_eq_true rfl] at Q1 Q2
        clear D6 T7 b6 R6 R7 Cm Ck Cm7 Ck7
        have m0 : (0 : Int) ≤ (m : Int) := by omega
        have m1 : (m : Int) < (L.length : Int) := by omega
        have k0 : (0 : Int) ≤ (kk : Int) := by omega
        have k1 : (kk : Int) < (L.length : Int) := by omega
        go_wp2_with fail
        refine Q1.mono ?_
        clear Q1
        rintro e w8 ⟨rfl, rfl⟩
        go_wp2_with fail
        refine Q2.mono ?_
        clear Q2
        rintro e w8 ⟨rfl, rfl⟩
        generalize hRR : (msgs L ++ [L[m].b]).take kk ++ (msgs L ++ [L[m].b]).drop (kk + 1) = R at D7 HROW HLR
        generalize (xs ++ [u4]).take kk ++ (xs ++ [u4]).drop (kk + 1) = xs7 at D7
        clear hRR hm2 hk2
        go_wp2_with fail
        go_loopw [15] (fun iv wr => ∃ n : Nat, n + 1 ≤ L.length ∧ iv = .int .i64 n ∧ BagAt 49 w.heap.size wr d 1000 0 v7 xs7 R ∧ Below w.heap.size w wr) (fun iv _ => L.length - (intOf iv).toNat)
        case atStart => exact ⟨0, by omega, rfl, D7, b7⟩
        case round =>
          clear D7 b7
          obtain ⟨n, hn, rfl, D, b⟩ := hrel
          by_cases hnl : n + 1 < L.length
          · have hnR : n < R.length := by rw [HLR.out]; omega
            have row := HROW.out n hnl
            rcases Nat.lt_or_ge n kk with hnk | hnk
            case' inl =>
              rw [if_pos hnk] at row
              have hat : n < L.length := by omega
              have eR : R[n] = L[n].b := by
                have h1 := List.getElem?_eq_getElem hnR
                rw [row, List.getElem?_eq_getElem (by rw [HML.out]; exact hat), msgs_get hat] at h1
                exact (Option.some.inj h1).symm
              obtain ⟨ad9, A9, c9, e9, C9⟩ := ha.call hat
            case' inr =>
              rw [if_neg (by omega)] at row
              have hat : n + 1 < L.length := by omega
              have eR : R[n] = L[n + 1].b := by
                have h1 := List.getElem?_eq_getElem hnR
                rw [row, List.getElem?_eq_getElem (by rw [HML.out]; exact hat), msgs_get hat] at h1
                exact (Option.some.inj h1).symm
              obtain ⟨ad9, A9, c9, e9, C9⟩ := ha.call hat
            all_goals
              injection e9 with e9
              subst e9
              have t9 := Nat.le_trans (total_one hat) hT
              have P := get_yes D (i := n) hnR (by rw [HLR.out]; omega) (by rw [eR]; omega)
              rw [eR] at P
              clear row eR
              go_wp2_with fail
              refine P.mono ?_
              clear P
              rintro e w9 ⟨A10, c10, rfl, O10, b10⟩
              have D10 := D.quiet (below_quiet2 b10)
              replace b10 := b.trans (b10.mono b.size)
              have C10 := C9.below (b10.mono hB)
              have hc10 := C10.b
              have Q := bytes_any A10 A9 c10 c9 _ _ _ _ w9 O10.reads C10.bytes C9.small C9.small
              rw [decide_eq_true rfl] at Q
              clear D b O10 C10 C9
              go_wp2_with fail
              refine Q.mono ?_
              clear Q
              rintro e w11 ⟨rfl, rfl⟩
              go_wp2_with fail
              go_roundw
              case rel => exact ⟨n + 1, by omega, by go_num, D10, b10⟩
              case measure => simp [intOf]; omega
          · have hnn : n + 1 = L.length := by omega
            have HNN := Lib.hid hnn
            clear hnn
            have hq1 : L.length ≤ n + 1 := by omega
            go_wp2_with fail
            refine (first_any _).mono ?_
            rintro e w9 ⟨rfl, b9⟩
            replace b9 := b.trans (b9.mono b.size)
            clear b
            go_wp2_with fail
            go_ret
            exact ⟨rfl, b9⟩
end Go.Proofs.Ytdcmaikgkmamjaa
