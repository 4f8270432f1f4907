/- BoxCopies: a copy has the same, in the same order, and as much room; neither sees the other: the walk. -/
import Derived.Test.YtegjpfdbfjfolaaTwo
namespace Go.Proofs.Ytegjpfdbfjfolaa
open Go.RowKit
set_option maxRecDepth 100000 in
set_option maxHeartbeats 4000000 in
theorem copies_ints (sz : Int) (A : Option Addr) (c : Nat) (l : List Int) (m : Int) (w : World) (hs1 : -9223372036854775808 ≤ sz) (hs2 : sz ≤ 9223372036854775807) (ha : IntsAt w w.heap.size A l) (hl : l.length ≤ maxLen) :
    Calls Try.prog 8 #[.int .i64 sz, .slice A l.length c, .int .i64 m] w fun e w' => e = .returned (.bool true) ∧ Below w.heap.size w w' := by
  unfold maxLen at hl
  by_cases hsz : 1 ≤ sz ∧ sz ≤ 1000
  · obtain ⟨n, rfl⟩ := Int.eq_ofNat_of_zero_le (show 0 ≤ sz by omega)
    by_cases hlen : l.length ≤ 300
    · have hd : decide ((300 : Int) < (l.length : Int)) = false := by simp; omega
      have hn2 : n ≤ 1000 := by omega
      have hn1 : 1 ≤ n := by omega
      go_enter Try.func8, Try.ntmps8
      go_wp2_with fail
      refine (first_any _).mono ?_
      rintro e w1 ⟨rfl, b1⟩
      have hw1 := b1.size
      go_wp2_with fail
      refine (new_yes n (by omega) (by omega) _).mono ?_
      rintro e w2 ⟨rfl, rfl⟩
      have hn := newBox_at w1 n
      have b2 : Below w.heap.size w (newBox w1 n) := b1.trans ((newBox_below w1 n).mono hw1)
      have hns := newBox_size w1 n
      generalize newBox w1 n = w2 at hn b2 hns ⊢
      obtain ⟨b, hb⟩ : ∃ b, b = w1.heap.size + 1 := ⟨_, rfl⟩
      obtain ⟨ch, hch⟩ : ∃ b, b = w1.heap.size := ⟨_, rfl⟩
      rw [← hb, ← hch] at hn
      rw [← hb]
      have hcw : w.heap.size ≤ ch := by omega
      have hbw : w.heap.size ≤ b := by omega
      clear hb hns hch hw1 b1
      go_wp2_with fail
      go_loopw [9] (fun i wr => ∃ j : Nat, j ≤ l.length ∧ i = .int .i64 j ∧ BoxAt wr b ch n (l.take (min j n)) ∧ Below w.heap.size w wr) (fun i _ => l.length - (intOf i).toNat)
      case atStart => exact ⟨0, Nat.zero_le _, rfl, by simpa using hn, b2⟩
      case round =>
        clear hn b2
        obtain ⟨j, hj, rfl, hbox, hbel⟩ := hrel
        have hwr := hbel.size
        by_cases hlt : j < l.length
        · obtain ⟨ad, rfl, hc0⟩ := (ha.kept hbel).get hlt
          by_cases hjn : j < n
          · have hlen1 : (l.take (min j n)).length < n := by rw [List.length_take]; omega
            go_wp2_with fail
            refine (put_yes hbox hlen1 l[j]).mono ?_
            rintro e w3 ⟨rfl, h3, t3⟩
            have b3 := below_turned hbel t3 hcw hwr
            have et : l.take (min j n) ++ [l[j]] = l.take (min (j + 1) n) := by rw [Nat.min_eq_left (by omega), Nat.min_eq_left (by omega), List.take_succ_eq_append_getElem hlt]
            rw [et] at h3
            clear hlen1 et
            go_wp2_with fail
            go_roundw
            case rel => exact ⟨j + 1, by omega, by go_num, h3, b3⟩
            case measure => simp [intOf]; omega
          · have hlen1 : n ≤ (l.take (min j n)).length := by rw [List.length_take]; omega
            go_wp2_with fail
            refine (put_no hbox hlen1 l[j]).mono ?_
            rintro e w3 ⟨rfl, rfl⟩
            have et : l.take (min j n) = l.take (min (j + 1) n) := by rw [Nat.min_eq_right (by omega), Nat.min_eq_right (by omega)]
            rw [et] at hbox
            clear hlen1 et
            go_wp2_with fail
            go_roundw
            case rel => exact ⟨j + 1, by omega, by go_num, hbox, hbel⟩
            case measure => simp [intOf]; omega
        · obtain ⟨L, hL⟩ : ∃ L, L = l.take (min j n) := ⟨_, rfl⟩
          have hLl : L.length ≤ n := by rw [hL, List.length_take]; omega
          rw [← hL] at hbox
          clear hL
          go_wp2_with fail
          refine (copy_box hbox hLl hn2).mono ?_
          rintro e w3 ⟨bn, cn, rfl, hc3, hb3, g3, f1, f2⟩
          have q1 : ch ≠ cn := by have := hbox.ltc; omega
          have q3 : b ≠ cn := by have := hbox.ltb; omega
          have q5 : ch ≠ bn := by have := hbox.ltc; omega
          have b3 := hbel.grown g3 hwr (by intro g e; injection e with e; omega)
          have q4 : w.heap.size ≤ cn := by omega
          have hw3 := b3.size
          clear hbox hbel g3 f1 f2
          go_wp2_with fail
          refine (list_slice hb3 hLl hn2).mono ?_
          rintro e w4 ⟨A4, cp4, rfl, own4, hb4, g4⟩
          have S0 : Two w w.heap.size b ch bn cn n w3.heap.size A4 cp4 L w4 L L :=
            ⟨hb4, hc3.grown g4 (by simpa using q5) (by simpa using q1), own4, b3.grown g4 hw3 (by intro g e; injection e with e; omega), Nat.le_trans hw3 g4.size, ⟨hcw, q4, q1, q5, q3, hb3.ltc, hc3.ltc⟩⟩
          clear hb3 hc3 b3 g4 own4 hb4 q1 q3 q5 q4 hw3
          obtain ⟨i0, hi, hz0, hz1, hz2⟩ := info_parts int_row
          by_cases hroom : L.length < n
          · go_wp2_with fail
            refine (put_yes S0.x hroom m).mono ?_
            rintro e w5 ⟨rfl, hx, t⟩
            have S1 := S0.fst hx t.1
            clear hx t S0
            go_wp2_with fail
            refine (put_yes S1.y hroom m).mono ?_
            rintro e w6 ⟨rfl, hx, t⟩
            have S2 := S1.snd hx t.1
            clear hx t S1
            obtain ⟨M, hM⟩ : ∃ M, L ++ [m] = M := ⟨_, rfl⟩
            have hMlen : M.length = L.length + 1 := by rw [← hM]; simp
            obtain ⟨x0, T, hT⟩ : ∃ x0 T, M = x0 :: T := by
              cases M with
              | nil => simp at hMlen
              | cons x t => exact ⟨_, _, rfl⟩
            have hTlen : T.length = L.length := by have := congrArg List.length hT; simp at this; omega
            have hMl : M.length ≤ n := by omega
            have hTl : T.length ≤ n := by omega
            have HLM := Lib.hid hM
            have HM := Lib.hid hT
            have HML := Lib.hid hMlen
            have HTL := Lib.hid hTlen
            rw [hM] at S2
            clear hM hT hMlen hTlen
            go_wp2_with fail
            refine (take_yes (HM.out ▸ S2.x)).mono ?_
            rintro e w7 ⟨rfl, hx, t⟩
            have S3 := S2.fst hx t.1
            clear hx t S2
            go_wp2_with fail
            refine (list_slice S3.y hMl hn2).mono ?_
            rintro e w8 ⟨A8, c8, rfl, o8, hx, g⟩
            have S4 := S3.snd hx g
            clear hx g S3
            go_wp2_with fail
            refine (copy_quiet _ _ _ L _ (own_ints S4.s) (by omega)).mono ?_
            rintro e w9 ⟨A9, c9, rfl, o9, g9⟩
            go_wp2_with (at_builtin; refine ungate rfl ?_; refine wpList_append_own _ rfl _ _ 22 rfl w8.heap.size 3 i0 (.int .i64 0) 1 8 Try.underlying22 hi hz0 hz1 hz2 rfl (by decide) _ _ _ rfl (o9.alloc _) ⟨w9.heap.size, 0, none⟩ 1 1 [.int .i64 m] rfl rfl cell_list (by intro u hu; simp at hu; subst hu; rfl) (by unfold maxLen; omega) (by omega) (by have := g9.size; simp; omega) ?_; intro v10 w10 o10 g10 _)
            have g9a : w8.grownBy (w9.alloc (.cells #[.int .i64 m] 3)) none := grown_trans g9 (World.grownBy_alloc _ _ _)
            have g8 := grown_new g9a g10 (fun g hg => (o9.lt g hg).1)
            have S5 := S4.quiet g8
            have o8a := own_quiet o8 g8
            have o10a : w10.ownsRow w8.heap.size 3 1 v10 M.length (vals M) := by
              have e1 : vals L ++ [Value.int .i64 m] = vals M := by rw [← HLM.out]; simp [vals]
              have e2 : L.length + 1 = M.length := HML.out.symm
              rw [e1, e2] at o10
              exact o10
            obtain ⟨A10, c10, rfl⟩ := own_form o10a
            clear o9 g9 g9a g8 g10 S4 o8 o10
            go_wp2_with fail
            refine (ints_alike _ _ _ _ _ _ M _ (own_ints o8a) (own_ints o10a) (by omega)).mono ?_
            rintro e w10b ⟨rfl, g⟩
            have S6 := S5.quiet g
            clear g S5 o8a o10a
            go_wp2_with fail
            refine (take_yes (HM.out ▸ S6.y)).mono ?_
            rintro e w11 ⟨rfl, hx, t⟩
            have S7 := S6.snd hx t.1
            clear hx t S6
            go_wp2_with fail
            refine (list_slice S7.x hTl hn2).mono ?_
            rintro e w12 ⟨A12, c12, rfl, o12, hx, g⟩
            have S8 := S7.fst hx g
            have k12 := S7.f
            have k12b := S7.y.ltc
            have k12c := S7.y.ltb
            clear hx g S7
            go_wp2_with fail
            refine (list_slice S8.y hTl hn2).mono ?_
            rintro e w13 ⟨A13, c13, rfl, o13, hx, g⟩
            have S9 := S8.snd hx g
            have o12a := o12.kept g (.inr (new_ne o12 k12b))
            clear hx g S8 o12
            go_wp2_with fail
            refine (ints_alike _ _ _ _ _ _ T _ (own_ints o12a) (own_ints o13) (by omega)).mono ?_
            rintro e w14 ⟨rfl, g⟩
            have S10 := S9.quiet g
            clear g S9 o12a o13 k12 k12b k12c
            go_wp2_with fail
            go_loopg [94] T.length (fun g _ wr => ∃ K : List Int, K.length = g ∧ Two w w.heap.size b ch bn cn n w3.heap.size A4 cp4 L wr K T)
            case atStart => exact ⟨T, rfl, S10⟩
            case round =>
              clear S10
              obtain ⟨K, hK, S11⟩ := hrel
              cases K with
              | nil =>
                clear hK
                go_wp2_with fail
                refine (len_any S11.x).mono ?_
                rintro e w15 ⟨rfl, rfl⟩
                go_wp2_with fail
                refine (first_any _).mono ?_
                rintro e w16 ⟨rfl, b16⟩
                have S12 := S11.quiet (below_only b16)
                clear S11 b16
                go_wp2_with fail
                refine (len_any S12.y).mono ?_
                rintro e w17 ⟨rfl, rfl⟩
                have e1 := HTL.out
                rw [e1]
                clear e1
                have hr : (L.length : Int) < n := by omega
                go_wp2_with fail
                go_ret
                exact ⟨rfl, S12.bel⟩
              | cons k K =>
                have HK := Lib.hid hK
                clear hK
                go_wp2_with fail
                refine (len_any S11.x).mono ?_
                rintro e w15 ⟨rfl, rfl⟩
                have hpos : (0 : Int) < ((k :: K).length : Int) := by simp only [List.length_cons]; omega
                go_wp2_with fail
                refine (take_yes S11.x).mono ?_
                rintro e w16 ⟨rfl, hx, t⟩
                have S12 := S11.fst hx t.1
                clear hx t S11 hpos
                go_wp2_with fail
                go_roundg K.length
                case measure => have := HK.out; simp at this; omega
                case rel => exact ⟨K, rfl, S12⟩
          · have hfull : n ≤ L.length := by omega
            go_wp2_with fail
            refine (put_no S0.x hfull m).mono ?_
            rintro e w5 ⟨rfl, rfl⟩
            go_wp2_with fail
            refine (put_no S0.y hfull m).mono ?_
            rintro e w6 ⟨rfl, rfl⟩
            obtain ⟨x0, T, hT⟩ : ∃ x0 T, L = x0 :: T := by
              cases L with
              | nil => exfalso; simp only [List.length_nil] at hfull; omega
              | cons x t => exact ⟨_, _, rfl⟩
            have hTlen : L.length = T.length + 1 := by rw [hT]; simp
            have hTl : T.length ≤ n := by omega
            have HM := Lib.hid hT
            have HTL := Lib.hid hTlen
            clear hT hTlen
            go_wp2_with fail
            refine (take_yes (HM.out ▸ S0.x)).mono ?_
            rintro e w7 ⟨rfl, hx, t⟩
            have S6 := S0.fst hx t.1
            clear hx t S0
            go_wp2_with fail
            refine (take_yes (HM.out ▸ S6.y)).mono ?_
            rintro e w11 ⟨rfl, hx, t⟩
            have S7 := S6.snd hx t.1
            clear hx t S6
            go_wp2_with fail
            refine (list_slice S7.x hTl hn2).mono ?_
            rintro e w12 ⟨A12, c12, rfl, o12, hx, g⟩
            have S8 := S7.fst hx g
            have k12 := S7.f
            have k12b := S7.y.ltc
            have k12c := S7.y.ltb
            clear hx g S7
            go_wp2_with fail
            refine (list_slice S8.y hTl hn2).mono ?_
            rintro e w13 ⟨A13, c13, rfl, o13, hx, g⟩
            have S9 := S8.snd hx g
            have o12a := o12.kept g (.inr (new_ne o12 k12b))
            clear hx g S8 o12
            go_wp2_with fail
            refine (ints_alike _ _ _ _ _ _ T _ (own_ints o12a) (own_ints o13) (by omega)).mono ?_
            rintro e w14 ⟨rfl, g⟩
            have S10 := S9.quiet g
            clear g S9 o12a o13 k12 k12b k12c
            go_wp2_with fail
            go_loopg [94] T.length (fun g _ wr => ∃ K : List Int, K.length = g ∧ Two w w.heap.size b ch bn cn n w3.heap.size A4 cp4 L wr K T)
            case atStart => exact ⟨T, rfl, S10⟩
            case round =>
              clear S10
              obtain ⟨K, hK, S11⟩ := hrel
              cases K with
              | nil =>
                clear hK
                go_wp2_with fail
                refine (len_any S11.x).mono ?_
                rintro e w15 ⟨rfl, rfl⟩
                go_wp2_with fail
                refine (first_any _).mono ?_
                rintro e w16 ⟨rfl, b16⟩
                have S12 := S11.quiet (below_only b16)
                clear S11 b16
                go_wp2_with fail
                refine (len_any S12.y).mono ?_
                rintro e w17 ⟨rfl, rfl⟩
                have e1 := HTL.out
                have e2 : (T.length : Int) = n - 1 := by omega
                rw [e2]
                clear e1 e2
                go_wp2_with fail
                go_ret
                exact ⟨rfl, S12.bel⟩
              | cons k K =>
                have HK := Lib.hid hK
                clear hK
                go_wp2_with fail
                refine (len_any S11.x).mono ?_
                rintro e w15 ⟨rfl, rfl⟩
                have hpos : (0 : Int) < ((k :: K).length : Int) := by simp only [List.length_cons]; omega
                go_wp2_with fail
                refine (take_yes S11.x).mono ?_
                rintro e w16 ⟨rfl, hx, t⟩
                have S12 := S11.fst hx t.1
                clear hx t S11 hpos
                go_wp2_with fail
                go_roundg K.length
                case measure => have := HK.out; simp at this; omega
                case rel => exact ⟨K, rfl, S12⟩
    · have hd : decide ((300 : Int) < (l.length : Int)) = true := by simp; omega
      go_enter Try.func8, Try.ntmps8
      go_wp2_with fail
      refine (first_any _).mono ?_
      rintro e w1 ⟨rfl, b1⟩
      have hw1 := b1.size
      go_wp2_with fail
      refine (new_yes n (by omega) (by omega) _).mono ?_
      rintro e w2 ⟨rfl, rfl⟩
      have b2 : Below w.heap.size w (newBox w1 n) := b1.trans ((newBox_below w1 n).mono hw1)
      have hns := newBox_size w1 n
      generalize newBox w1 n = w2 at b2 hns ⊢
      have HS := Lib.hid hns
      clear hns
      go_wp2_with fail
      refine (first_any _).mono ?_
      rintro e w3 ⟨rfl, b3⟩
      go_wp2_with fail
      go_ret
      exact ⟨rfl, b2.trans (b3.mono (by have := HS.out; omega))⟩
  · go_enter Try.func8, Try.ntmps8
    go_wp2_with fail
    refine (first_any _).mono ?_
    rintro e w1 ⟨rfl, b1⟩
    have hw1 := b1.size
    go_wp2_with fail
    refine (new_no sz (by omega) _).mono ?_
    rintro e w2 ⟨rfl, rfl⟩
    go_wp2_with fail
    refine (first_any _).mono ?_
    rintro e w3 ⟨rfl, b3⟩
    go_wp2_with fail
    go_ret
    exact ⟨rfl, b1.trans (b3.mono hw1)⟩
end Go.Proofs.Ytegjpfdbfjfolaa
