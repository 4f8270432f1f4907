/- BagCopies: the walk. -/
import Derived.Test.YtdcmaikgkmamjaaOrder
namespace Go.Proofs.Ytdcmaikgkmamjaa
open Go.RowKit
set_option linter.unusedVariables false
attribute [local go_sem ↓] Go.wp_at_zero Go.wp_at_succ
/-- Two bags that lie apart. -/
structure Pair (base : Nat) (W w : World) (b c : Nat) (r lost : Int) (v v' : Value) (xs ys : List Value) (L K : List (List Nat)) : Prop where
  one : BagAt 49 base w b r lost v xs L
  two : BagAt 49 base w c r lost v' ys K
  ne : b ≠ c
  ap : Ap v v'
  bel : Below base W w
  lo : base ≤ w.heap.size
section
variable {base : Nat} {W w w' : World} {b c : Nat} {r lost : Int} {v v' v'' : Value} {xs ys zs : List Value} {L K M : List (List Nat)}
theorem Pair.quiet (h : Pair base W w b c r lost v v' xs ys L K) (g : w.grownBy w' none) : Pair base W w' b c r lost v v' xs ys L K :=
  ⟨h.one.quiet g, h.two.quiet g, h.ne, h.ap, h.bel.grown g h.lo (by simp), Nat.le_trans h.lo g.size⟩
theorem Pair.below (h : Pair base W w b c r lost v v' xs ys L K) (bl : Below w.heap.size w w') : Pair base W w' b c r lost v v' xs ys L K := h.quiet (below_quiet2 bl)
theorem Pair.turn1 (h : Pair base W w b c r lost v v' xs ys L K) (t : Turn 49 base w w' b v xs r lost v'' zs M) : Pair base W w' b c r lost v'' v' zs ys M K := by
  obtain ⟨o, a⟩ := t.other h.one h.two h.ne.symm h.ap.symm
  exact ⟨t.bag, o, h.ne, a.symm, t.below h.one h.bel h.lo, Nat.le_trans h.lo t.kept.size⟩
theorem Pair.turn2 (h : Pair base W w b c r lost v v' xs ys L K) (t : Turn 49 base w w' c v' ys r lost v'' zs M) : Pair base W w' b c r lost v v'' xs zs L M := by
  obtain ⟨o, a⟩ := t.other h.two h.one h.ne h.ap
  exact ⟨o, t.bag, h.ne, a, t.below h.two h.bel h.lo, Nat.le_trans h.lo t.kept.size⟩
end
/-- Double at the front, of whatever bag. -/
theorem double_front {base : Nat} {w : World} {b : Nat} {r lost : Int} {v : Value} {xs : List Value} {L : List (List Nat)} (h : BagAt 49 base w b r lost v xs L) (hbase : base ≤ w.heap.size) (hl : L.length ≤ 100000) (hli : ∀ l ∈ L, l.length ≤ 1000000) :
    Calls Try.prog 11 #[.pointer (some ⟨b, 0, none⟩), .int .i64 0] w fun e w' => ∃ v' xs' L', e = .returned (.bool (decide (0 < L.length ∧ (L.length : Int) < r))) ∧ Turn 49 base w w' b v xs r lost v' xs' L' := by
  by_cases h0 : 0 < L.length
  · by_cases hr : (L.length : Int) < r
    · rw [decide_eq_true ⟨h0, hr⟩]
      exact (double_yes (i := 0) h hbase h0 hr hl (hli _ (List.getElem_mem h0))).mono fun e w' ⟨v', u, he, t⟩ => ⟨v', _, _, he, t⟩
    · rw [decide_eq_false (fun q => hr q.2)]
      exact (double_full (i := 0) h h0 (by omega) hl (hli _ (List.getElem_mem h0))).mono fun e w' ⟨he, g⟩ => ⟨v, xs, L, he, h.turn g⟩
  · rw [decide_eq_false (fun q => h0 q.1)]
    exact (double_no (i := 0) h (.inr (by omega)) hl).mono fun e w' ⟨he, g⟩ => ⟨v, xs, L, he, h.turn g⟩
set_option maxRecDepth 100000 in
set_option maxHeartbeats 8000000 in
theorem copies_law (size : Int) (A : Option Addr) (c B : Nat) (L : List Op) (i : Int) (w : World) (ha : OpsAt w B A L) (hB : B ≤ w.heap.size) (hl : L.length ≤ maxLen) :
    Calls Try.prog 6 #[.int .i64 size, .slice A L.length c, .int .i64 i] w fun e w' => e = .returned (.bool true) ∧ Below w.heap.size w w' := by
  have hl' := hl
  unfold maxLen at hl'
  by_cases hsz : 1 ≤ size ∧ size ≤ 10000
  · obtain ⟨n, rfl⟩ := Int.eq_ofNat_of_zero_le (show 0 ≤ size by omega)
    have n1 : 1 ≤ n := by omega
    have n2 : n ≤ 10000 := by omega
    go_enter Try.func6, Try.ntmps6
    go_wp2_with fail
    refine (first_any _).mono ?_
    rintro e w1 ⟨rfl, b1⟩
    go_wp2_with fail
    refine (new_yes n (by omega) (by omega) _).mono ?_
    rintro e w2 ⟨rfl, rfl⟩
    have D0 := BagAt.new_ (T := 49) (base := w.heap.size) w1 n (.inl rfl) b1.size
    have b0 := b1.alloc b1.size (.cells #[.int .i64 n, .int .i64 0, .slice none 0 0] 49)
    obtain ⟨d, hd⟩ : ∃ d, d = w1.heap.size := ⟨_, rfl⟩
    have hD : BagAt 49 w.heap.size (w1.alloc (.cells #[.int .i64 n, .int .i64 0, .slice none 0 0] 49)) d n 0 (.slice none 0 0) [] [] := by rw [hd]; exact D0
    rw [← hd]
    have HD := Lib.hid hd
    clear hd b1 D0 hsz
    generalize w1.alloc (.cells #[.int .i64 n, .int .i64 0, .slice none 0 0] 49) = w2 at hD b0 ⊢
    have hF := few_any A c B L w2 (ha.below (b0.mono hB)) hl
    go_wp2_with fail
    refine hF.mono ?_
    clear hF
    rintro e w3 ⟨t, rfl, rfl, ht⟩
    cases t with
    | false =>
      clear ht hD
      go_wp2_with fail
      refine (first_any _).mono ?_
      rintro e w3 ⟨rfl, b3⟩
      replace b3 := b0.trans (b3.mono b0.size)
      clear b0
      go_wp2_with fail
      go_ret
      exact ⟨rfl, b3⟩
    | true =>
      obtain ⟨hl2, hT⟩ := ht rfl
      clear ht
      go_wp2_with fail
      go_loopw [9] (fun iv wr => ∃ (j : Nat) (v : Value) (xs : List Value), j ≤ L.length ∧ iv = .int .i64 j ∧ BagAt 49 w.heap.size wr d n ((j - min j n : Nat) : Int) v xs ((msgs L).take (min j n)) ∧ Below w.heap.size w wr) (fun iv _ => L.length - (intOf iv).toNat)
      case atStart => exact ⟨0, _, _, Nat.zero_le _, rfl, by simpa using hD, b0⟩
      case round =>
        clear hD b0
        obtain ⟨j, v, xs, hj, rfl, D, b⟩ := hrel
        by_cases hlt : j < L.length
        · obtain ⟨ad, A1, c1, rfl, C0⟩ := ha.call hlt
          have C := C0.below (b.mono hB)
          have hc2 := C.b
          have tot := Nat.le_trans (total_one hlt) hT
          rcases Nat.lt_or_ge j n with hjn | hjn
          · have hm : min j n = j := Nat.min_eq_left (by omega)
            have hm2 : min (j + 1) n = j + 1 := Nat.min_eq_left (by omega)
            rw [hm] at D
            have HM := Lib.hid hm2
            have HNX := Lib.hid (msgs_next hlt)
            have hkl : ((msgs L).take j).length = j := by rw [List.length_take, msgs_length]; omega
            have P := put_yes D b.size (by rw [hkl]; omega) (by rw [hkl]; omega) C.bytes (Nat.le_trans hB b.size) C.room C.small (by omega)
            clear hm hm2 hkl
            go_wp2_with fail
            refine P.mono ?_
            clear P
            rintro e w4 ⟨v4, u4, rfl, T4⟩
            have D4 := T4.bag
            rw [← HNX.out] at D4
            have b4 := T4.below D b b.size
            clear T4 D b C C0 hc2
            go_wp2_with fail
            go_roundw
            case rel => exact ⟨j + 1, _, _, by omega, by go_num, by rw [HM.out]; simpa using D4, b4⟩
            case measure => simp [intOf]; omega
          · have hm : min j n = n := Nat.min_eq_right (by omega)
            have hm2 : min (j + 1) n = n := Nat.min_eq_right (by omega)
            rw [hm] at D
            have HM := Lib.hid hm2
            have hkl : ((msgs L).take n).length = n := by rw [List.length_take, msgs_length]; omega
            have P := put_full D (by rw [hkl]; omega) (by rw [hkl]; omega) (by omega) (by omega) A1 L[j].b.length c1
            clear hm hm2 hkl
            go_wp2_with fail
            refine P.mono ?_
            clear P
            rintro e w4 ⟨rfl, T4⟩
            have D4 := T4.bag
            have b4 := T4.below D b b.size
            clear T4 D b C C0 hc2
            go_wp2_with fail
            go_roundw
            case rel => exact ⟨j + 1, _, _, by omega, by go_num, by rw [HM.out, show ((j + 1 - n : Nat) : Int) = ((j - n : Nat) : Int) + 1 by omega]; exact D4, b4⟩
            case measure => simp [intOf]; omega
        · obtain rfl : j = L.length := by omega
          have hml := msgs_length L
          have hms := msgs_small hT
          have hK1 : ∀ l ∈ (msgs L).take (min L.length n), l.length ≤ 20000 := fun l hl => hms l (List.mem_of_mem_take hl)
          have hK2 : ((msgs L).take (min L.length n)).length ≤ 300 := by rw [List.length_take, hml]; omega
          have hK3 : ∀ l ∈ (msgs L).take (min L.length n), Small l := fun l hl => by
            obtain ⟨o, ho, rfl⟩ := List.mem_map.1 (List.mem_of_mem_take hl)
            exact (ha.fit o ho).1
          have hK4 : ((msgs L).take (min L.length n)).length ≤ n := by rw [List.length_take, hml]; omega
          generalize (msgs L).take (min L.length n) = K at *
          have hlost : ∃ lost : Int, lost = ((L.length - min L.length n : Nat) : Int) := ⟨_, rfl⟩
          obtain ⟨lost, hlo⟩ := hlost
          rw [← hlo] at D
          clear hlo hml hms
          have HK1 := Lib.hid hK1
          have HK3 := Lib.hid hK3
          clear hK1 hK3
          have P := copy_bag D b.size (by omega) (fun l hl => Nat.le_trans (HK1.out l hl) (by omega))
          go_wp2_with fail
          refine P.mono ?_
          clear P
          rintro e w4 ⟨c4, v4, xs4, rfl, C4⟩
          have hdl := D.lt
          have hvl : ∀ g, v.ownBlock = some g → g < wr.heap.size := fun g hg => by
            obtain ⟨_, cur, hc⟩ := header_thirty D.own hg
            exact (Array.getElem?_eq_some_iff.1 hc).1
          have E4 : Pair w.heap.size w w4 d c4 n lost v v4 xs xs4 K K := ⟨C4.old, C4.new, by have := C4.far; omega, fun g h1 h2 => by have := hvl g h1; have := C4.head g h2; omega, b.grown C4.kept b.size (by simp), Nat.le_trans b.size C4.kept.size⟩
          clear D b C4 hvl hdl
          have K1 := len_any E4.two
          have K2 := len_any E4.one
          have K3 := lost_any E4.two
          have K4 := lost_any E4.one
          go_wp2_with fail
          refine K1.mono ?_
          clear K1
          rintro e w5 ⟨rfl, rfl⟩
          go_wp2_with fail
          refine K2.mono ?_
          clear K2
          rintro e w5 ⟨rfl, rfl⟩
          go_wp2_with fail
          refine K3.mono ?_
          clear K3
          rintro e w5 ⟨rfl, rfl⟩
          go_wp2_with fail
          refine K4.mono ?_
          clear K4
          rintro e w5 ⟨rfl, rfl⟩
          rcases (show (i < 0 ∨ (K.length : Int) ≤ i) ∨ (0 ≤ i ∧ i < (K.length : Int)) by omega) with q | ⟨q, q2⟩
          · have P1 := take_no E4.one q (by omega)
            have P2 := get_no E4.two q (by omega)
            have P3 := take_no E4.two q (by omega)
            go_wp2_with fail
            refine P1.mono ?_
            clear P1
            rintro e w5 ⟨rfl, rfl⟩
            go_wp2_with fail
            refine P2.mono ?_
            clear P2
            rintro e w5 ⟨rfl, rfl⟩
            have Q := fun w => bytes_any none none 0 0 0 0 [] [] w Reads.none_ Reads.none_ (by simp [Small]) (by simp [Small])
            simp only [decide_true] at Q
            go_wp2_with fail
            refine (Q _).mono ?_
            rintro e w5 ⟨rfl, rfl⟩
            go_wp2_with fail
            refine P3.mono ?_
            clear P3
            rintro e w5 ⟨rfl, rfl⟩
            go_wp2_with fail
            refine (first_any _).mono ?_
            rintro e w6 ⟨rfl, b6⟩
            replace E4 := E4.below b6
            clear b6
            go_wp2_with fail
            refine (Q _).mono ?_
            clear Q
            rintro e w7 ⟨rfl, rfl⟩
            have K1 := len_any E4.two
            have K2 := len_any E4.one
            go_wp2_with fail
            refine K1.mono ?_
            clear K1
            rintro e w5 ⟨rfl, rfl⟩
            go_wp2_with fail
            refine K2.mono ?_
            clear K2
            rintro e w5 ⟨rfl, rfl⟩
            have G1 := double_front E4.two E4.lo (by omega) (fun l hl => Nat.le_trans (HK1.out l hl) (by omega))
            generalize ht : decide (0 < K.length ∧ (K.length : Int) < (n : Int)) = t at G1
            go_wp2_with fail
            refine G1.mono ?_
            clear G1
            rintro e w8 ⟨v8, xs8, L8, rfl, T8⟩
            have E8 := E4.turn2 T8
            have G2 := double_front E8.one E8.lo (by omega) (fun l hl => Nat.le_trans (HK1.out l hl) (by omega))
            rw [ht] at G2
            clear E4 T8
            go_wp2_with fail
            refine G2.mono ?_
            clear G2
            rintro e w9 ⟨v9, xs9, L9, rfl, T9⟩
            have E9 := E8.turn1 T9
            have b9 := E9.bel
            clear E8 T9 E9
            go_wp2_with fail
            go_ret
            exact ⟨ret_bool (by simp), b9⟩
          · obtain ⟨m, rfl⟩ := Int.eq_ofNat_of_zero_le q
            have hm : m < K.length := by omega
            have hKm := HK1.out _ (List.getElem_mem hm)
            have hKs := HK3.out _ (List.getElem_mem hm)
            have P1 := take_yes E4.one hm (by omega) (by omega)
            have P2 := fun (w' : World) (v5 : Value) (xs5 : List Value) (E : Pair w.heap.size w w' d c4 n lost v5 v4 xs5 xs4 (K.take m ++ K.drop (m + 1)) K) => get_yes E.two hm (by omega) (by omega)
            have P3 := fun (w' : World) (v5 : Value) (xs5 : List Value) (E : Pair w.heap.size w w' d c4 n lost v5 v4 xs5 xs4 (K.take m ++ K.drop (m + 1)) K) => take_yes E.two hm (by omega) (by omega)
            obtain ⟨N, hN⟩ : ∃ N, K.length = N + 1 := ⟨K.length - 1, by omega⟩
            have hN2 : (K.take m ++ K.drop (m + 1)).length = N := by rw [List.length_append, List.length_take, List.length_drop]; omega
            have HK4 : Hid (∀ l ∈ K.take m ++ K.drop (m + 1), l.length ≤ 20000) := Lib.hid (fun l hl => by
              rcases List.mem_append.1 hl with h | h
              · exact HK1.out l (List.mem_of_mem_take h)
              · exact HK1.out l (List.mem_of_mem_drop h))
            generalize K.take m ++ K.drop (m + 1) = K' at *
            generalize hX : K[m] = X at *
            clear hX
            go_wp2_with fail
            refine P1.mono ?_
            clear P1
            rintro e w5 ⟨A5, c5, v5, rfl, R5, T5⟩
            have E5 := E4.turn1 T5
            clear E4 T5
            go_wp2_with fail
            refine (P2 _ _ _ E5).mono ?_
            clear P2
            rintro e w6 ⟨A6, c6, rfl, O6, b6⟩
            have E6 := E5.below b6
            replace R5 := quiet_row R5 (below_quiet2 b6)
            have R6 := RowIs.own O6 hKs
            clear E5 b6 O6
            have Q := bytes_any A5 A6 c5 c6 _ _ X X w6 R5.bytes.1 R6.bytes.1 hKs hKs
            rw [decide_eq_true rfl] at Q
            go_wp2_with fail
            refine Q.mono ?_
            clear Q
            rintro e w7 ⟨rfl, rfl⟩
            have K1 := len_any E6.two
            have K2 := len_any E6.one
            rw [hN] at K1
            rw [hN2] at K2
            have HN := Lib.hid hN
            have HN2 := Lib.hid hN2
            have hNb : N ≤ 300 := by omega
            clear hN hN2
            go_wp2_with fail
            refine K1.mono ?_
            clear K1
            rintro e w7 ⟨rfl, rfl⟩
            go_wp2_with fail
            refine K2.mono ?_
            clear K2
            rintro e w7 ⟨rfl, rfl⟩
            go_wp2_with fail
            refine (P3 _ _ _ E6).mono ?_
            clear P3
            rintro e w7 ⟨A7, c7, v7, rfl, R7, T7⟩
            have E7 := E6.turn2 T7
            replace R6 := R6.turn T7 E6.two
            clear E6 T7 R5
            go_wp2_with fail
            refine (first_any _).mono ?_
            rintro e w8 ⟨rfl, b8⟩
            replace E7 := E7.below b8
            replace R6 := quiet_row R6 (below_quiet2 b8)
            replace R7 := quiet_row R7 (below_quiet2 b8)
            clear b8
            have Q := bytes_any A7 A6 c7 c6 _ _ X X w8 R7.bytes.1 R6.bytes.1 hKs hKs
            rw [decide_eq_true rfl] at Q
            go_wp2_with fail
            refine Q.mono ?_
            clear Q R6 R7
            rintro e w9 ⟨rfl, rfl⟩
            have K1 := len_any E7.two
            have K2 := len_any E7.one
            go_wp2_with fail
            refine K1.mono ?_
            clear K1
            rintro e w9 ⟨rfl, rfl⟩
            go_wp2_with fail
            refine K2.mono ?_
            clear K2
            rintro e w9 ⟨rfl, rfl⟩
            have hK'b : K'.length ≤ 300 := by rw [HN2.out]; exact hNb
            have G1 := double_front E7.two E7.lo (by omega) (fun l hl => Nat.le_trans (HK4.out l hl) (by omega))
            generalize ht : decide (0 < K'.length ∧ (K'.length : Int) < (n : Int)) = t at G1
            go_wp2_with fail
            refine G1.mono ?_
            clear G1
            rintro e w8 ⟨v8, xs8, L8, rfl, T8⟩
            have E8 := E7.turn2 T8
            have G2 := double_front E8.one E8.lo (by omega) (fun l hl => Nat.le_trans (HK4.out l hl) (by omega))
            rw [ht] at G2
            clear E7 T8
            go_wp2_with fail
            refine G2.mono ?_
            clear G2
            rintro e w9 ⟨v9, xs9, L9, rfl, T9⟩
            have E9 := E8.turn1 T9
            have b9 := E9.bel
            clear E8 T9 E9
            go_wp2_with fail
            go_ret
            exact ⟨ret_bool (by simp), b9⟩
  · rcases (show size < 1 ∨ (¬ size < 1 ∧ 10000 < size) by omega) with q | ⟨q, q2⟩
    all_goals
      go_enter Try.func6, Try.ntmps6
      go_wp2_with fail
      refine (first_any _).mono ?_
      rintro e w1 ⟨rfl, b1⟩
      go_wp2_with fail
      refine (new_no size hsz _).mono ?_
      rintro e w2 ⟨rfl, rfl⟩
      go_wp2_with fail
      refine (first_any _).mono ?_
      rintro e w3 ⟨rfl, b3⟩
      replace b3 := b1.trans (b3.mono b1.size)
      clear b1
      go_wp2_with fail
      go_ret
      exact ⟨rfl, b3⟩
end Go.Proofs.Ytdcmaikgkmamjaa
