/- WalFile: the walk. -/
import Derived.Test.YtkhbpaloicefdaaLong
namespace Go.Proofs.Ytkhbpaloicefdaa
open Go.RowKit
set_option linter.unusedVariables false
attribute [local go_sem ↓] Go.wp_at_zero Go.wp_at_succ
theorem new_no (r : Int) (h : ¬ (0 ≤ r ∧ r ≤ 1073741824)) (w : World) :
    Calls Try.prog 9 #[.int .i64 r] w fun e w' => e = .returned (.tuple #[.pointer none, .int .i64 1]) ∧ w = w' := by
  have hf := fun w => fits_any r w
  rw [decide_eq_false h] at hf
  go_enter Try.func9, Try.ntmps9
  go_wp2_with fail
  refine (hf _).mono ?_
  rintro e w1 ⟨rfl, rfl⟩
  go_wp2_with fail
  go_ret2
  exact ⟨rfl, rfl⟩
theorem addL_r (S : Lg) (p : List Nat) : (addL S p).1.r = S.r := by
  unfold addL
  split
  · rfl
  split <;> rfl
theorem checkL_r (S : Lg) (P : List (List Nat)) : (checkL S P).1.r = S.r := by
  unfold checkL
  split
  · split <;> rfl
  · rfl
set_option maxRecDepth 100000 in
set_option maxHeartbeats 16000000 in
theorem file_law (size : Int) (A : Option Addr) (c : Nat) (L : List WOp) (AF : Option Addr) (cF : Nat) (f : List Nat) (w : World) (ha : OpsAt w w.heap.size A L) (hl : L.length ≤ maxLen) (hf : BytesAt w w.heap.size AF f) (hfs : Small f) (hfr : Roomy AF f.length cF) (hz1 : -9223372036854775808 ≤ size) (hz2 : size ≤ 9223372036854775807) :
    Calls Try.prog 6 #[.int .i64 size, .slice A L.length c, .slice AF f.length cF] w fun e w' => e = .returned (.bool true) ∧ Below w.heap.size w w' := by
  have hl' := hl
  unfold maxLen at hl'
  have hfl : f.length ≤ 9223372036854775807 := Nat.le_trans hfr.le hfr.max
  by_cases hsz : 0 ≤ size ∧ size ≤ 1073741824
  case neg =>
    go_enter Try.func6, Try.ntmps6
    go_wp2_with fail
    refine (first_any _).mono ?_
    rintro e w1 ⟨rfl, b1⟩
    have hw1 := b1.size
    have K := new_no size hsz w1
    clear hsz
    go_wp2_with fail
    refine K.mono ?_
    rintro e w2 ⟨rfl, rfl⟩
    go_wp2_with fail
    refine (first_any _).mono ?_
    rintro e w3 ⟨rfl, b3⟩
    go_wp2_with fail
    go_ret
    exact ⟨rfl, b1.trans (b3.mono hw1)⟩
  case pos =>
    obtain ⟨z0, z1⟩ := hsz
    go_enter Try.func6, Try.ntmps6
    go_wp2_with fail
    refine (first_any _).mono ?_
    rintro e w1 ⟨rfl, b1⟩
    have hw1 := b1.size
    go_wp2_with fail
    refine (new_yes size z0 z1 _).mono ?_
    rintro e w2 ⟨rfl, rfl⟩
    have D1 : DiskAt _ w1.heap.size size ((0 : Nat) : Int) none 0 [] := DiskAt.new_ w1 size
    have b2 := b1.alloc hw1 (.cells #[.int .i64 size, .int .i64 0, .slice none 0 0] 62)
    generalize w1.alloc (.cells #[.int .i64 size, .int .i64 0, .slice none 0 0] 62) = w2 at D1 b2 ⊢
    obtain ⟨d, hd⟩ : ∃ d, d = w1.heap.size := ⟨_, rfl⟩
    rw [← hd] at D1 hw1 ⊢
    clear hd b1
    have hw2 := b2.size
    have hF := few_any A c _ L w2 (ha.below b2) hl
    go_wp2_with fail
    refine hF.mono ?_
    clear hF
    rintro e w3 ⟨t, rfl, rfl, ht⟩
    cases t with
    | false =>
      clear ht
      go_wp2_with fail
      refine (first_any _).mono ?_
      rintro e w3 ⟨rfl, b3⟩
      go_wp2_with fail
      go_ret
      exact ⟨rfl, b2.trans (b3.mono hw2)⟩
    | true =>
      obtain ⟨hl1, hT, hLs⟩ := ht rfl
      clear ht
      by_cases hbig : 20000 < f.length
      · go_wp2_with fail
        refine (first_any _).mono ?_
        rintro e w3 ⟨rfl, b3⟩
        go_wp2_with fail
        go_ret
        exact ⟨rfl, b2.trans (b3.mono hw2)⟩
      · have hf2 : f.length ≤ 20000 := by omega
        have K1 := open_any D1 (Nat.zero_le _) (by simp)
        have hs0 : scand [] = ([], 0) := scand_nil
        rw [hs0] at K1
        have hd2 := D1.lt
        clear hs0
        go_wp2_with fail
        refine K1.mono ?_
        rintro e w4 ⟨p, A4, c4, AL4, cL4, xs4, rfl, hp, hL, g4⟩
        have H4 := hL w.heap.size hw2 hw1
        have b4 := b2.grown g4 hw2 (fun k e => by injection e with e; omega)
        have hF4 : Fine ⟨size, min 0 0, []⟩ (1800 + weight (L.take 0) + 6 * 0) := ⟨z0, z1, by simp, by simp [joined]⟩
        clear K1 hL D1 b2 g4
        go_wp2_with fail
        go_loopw [11] (fun kv wr => ∃ (j : Nat) (S : Lg) (A' : Option Addr) (c' : Nat) (AL : Option Addr) (cL : Nat) (xs : List Value), j ≤ L.length ∧ kv = .int .i64 (j : Int) ∧ LogAt wr w.heap.size p d S A' c' AL cL xs ∧ Fine S (1800 + weight (L.take j) + 6 * j) ∧ S.r = size ∧ Below w.heap.size w wr) (fun kv _ => L.length - (intOf kv).toNat)
        case atStart => exact ⟨0, _, A4, c4, AL4, cL4, xs4, Nat.zero_le _, rfl, H4, hF4, rfl, b4⟩
        case round =>
          clear H4 hF4 b4
          obtain ⟨j, S, A5, c5, AL5, cL5, xs5, hj, rfl, H, hF, hr, b⟩ := hrel
          have hw := b.size
          have HR := Lib.hid hr
          clear hr
          by_cases hlt : j < L.length
          · obtain ⟨ad, rfl, O⟩ := ha j hlt
            have O' := O.below b
            obtain ⟨A1, c1, p1, R1, rm⟩ := O'.bs
            obtain ⟨A2, c2, p2, hps, hpl⟩ := O'.rows
            have hk := O'.k
            have i0 : (0 : Int) ≤ (j : Int) := by omega
            have i1 : (j : Int) < (L.length : Int) := by omega
            have hws := weight_snoc hlt
            have hwl := weight_le (L := L) (j + 1)
            have hl3 := hLs _ (List.getElem_mem hlt)
            have hwt : L[j].b.length + total L[j].ls = wt L[j] := rfl
            have hFb : Fine S 300000 := hF.more (by omega)
            by_cases k02 : L[j].k = 0 ∨ L[j].k = 2
            · have hF2 : Fine (addL S L[j].b).1 (1800 + weight (L.take (j + 1)) + 6 * (j + 1)) := (addL_fine hF L[j].b).more (by omega)
              have hr2 : (addL S L[j].b).1.r = size := by rw [addL_r]; exact HR.out
              have K := log_add H hFb R1 hw (fun ad e hb => by have := H.wd; omega) rm O'.s
              have HF2 := Lib.hid hF2
              have HR2 := Lib.hid hr2
              clear hF2 hr2 hws hwt
              rcases k02 with k0 | k2
              · rw [k0] at hk
                go_wp2_with fail
                refine K.mono ?_
                rintro e w6 ⟨A6, c6, AL6, cL6, xs6, rfl, H6, T6⟩
                have b6 := b.trans (T6.below hw H.wd H.wp H.lb)
                clear K H T6 b
                go_wp2_with fail
                go_roundw
                case rel => exact ⟨j + 1, _, A6, c6, AL6, cL6, xs6, by omega, by go_num, H6, HF2.out, HR2.out, b6⟩
                case measure => simp [intOf]; omega
              · rw [k2] at hk
                go_wp2_with fail
                refine K.mono ?_
                rintro e w6 ⟨A6, c6, AL6, cL6, xs6, rfl, H6, T6⟩
                have b6 := b.trans (T6.below hw H.wd H.wp H.lb)
                clear K H T6 b
                go_wp2_with fail
                go_roundw
                case rel => exact ⟨j + 1, _, A6, c6, AL6, cL6, xs6, by omega, by go_num, H6, HF2.out, HR2.out, b6⟩
                case measure => simp [intOf]; omega
            · have q0 : (L[j].k == 0) = false := by simp; omega
              have q2 : (L[j].k == 2) = false := by simp; omega
              by_cases k3 : L[j].k = 3
              · have hjt := joined_total L[j].ls
                have hF2 : Fine (checkL S L[j].ls).1 (1800 + weight (L.take (j + 1)) + 6 * (j + 1)) := (checkL_fine hF L[j].ls (Nat.le_refl _)).more (by omega)
                have hr2 : (checkL S L[j].ls).1.r = size := by rw [checkL_r]; exact HR.out
                have K := log_check (c2 := c2) H hFb hps (fun _ => Nat.le_refl _) hw (by omega) (by omega)
                have HF2 := Lib.hid hF2
                have HR2 := Lib.hid hr2
                clear hF2 hr2 hws hwt hjt q0 q2 k02
                rw [k3] at hk
                go_wp2_with fail
                refine K.mono ?_
                rintro e w6 ⟨A6, c6, AL6, cL6, xs6, rfl, H6, T6⟩
                have b6 := b.trans (T6.below hw H.wd H.wp H.lb)
                clear K H T6 b
                go_wp2_with fail
                go_roundw
                case rel => exact ⟨j + 1, _, A6, c6, AL6, cL6, xs6, by omega, by go_num, H6, HF2.out, HR2.out, b6⟩
                case measure => simp [intOf]; omega
              · have q3 : (L[j].k == 3) = false := by simp; omega
                have hF2 : Fine S (1800 + weight (L.take (j + 1)) + 6 * (j + 1)) := hF.more (by omega)
                have HF2 := Lib.hid hF2
                clear hF2 hws hwt k02 k3
                generalize L[j].k = kk at *
                go_wp2_with fail
                go_roundw
                case rel => exact ⟨j + 1, _, A5, c5, AL5, cL5, xs5, by omega, by go_num, H, HF2.out, HR.out, b⟩
                case measure => simp [intOf]; omega
          · obtain rfl : j = L.length := by omega
            rw [List.take_length] at hF
            have hjS := hF.l
            have hjS2 : (joined S.R).length ≤ 22400 := by omega
            have hR6 := joined_len S.R
            have hFb : Fine S 300000 := hF.more (by omega)
            clear hF hjS
            have K2 := log_records H (by omega)
            go_wp2_with fail
            refine K2.mono ?_
            rintro e w7 ⟨A7, c7, y7, rfl, O7, R7, b7⟩
            have H7 := H.quiet (below_quiet2 b7)
            have b7a := b.trans (b7.mono hw)
            have hw7 := b7a.size
            have hRl : S.R.length ≤ 4000 := by omega
            clear K2 H b b7
            go_wp2_with fail
            go_loopw [13, 14] (fun bv kv wk => ∃ j : Nat, j ≤ S.R.length ∧ kv = .int .i64 (j : Int) ∧ Own wk w7.heap.size bv (joined (S.R.take j)) ∧ Below w7.heap.size w7 wk) (fun _ kv _ => S.R.length - (intOf kv).toNat)
            case atStart => exact ⟨0, Nat.zero_le _, rfl, World.ownsRow_nil _ _ _ _, Below.refl _ _⟩
            case round =>
              obtain ⟨j, hj2, rfl, OB, bk⟩ := hrel
              have hwk := bk.size
              obtain ⟨O7k, R7k⟩ := lists_own O7 R7 bk (Nat.le_refl _)
              by_cases hlt2 : j < S.R.length
              · obtain ⟨g, cp, e8, hg, _⟩ := O7k.form (by omega)
                obtain ⟨A1, c1, ex, O1⟩ := R7k.2 j hlt2
                injection e8 with e81 _ e83
                subst e81 e83
                have hcell : _ = some (Value.slice A1 S.R[j].length c1) := (World.ownsRow.cellAt O7k j (by omega)).trans ex
                have i0 : (0 : Int) ≤ (j : Int) := by omega
                have i1 : (j : Int) < (S.R.length : Int) := by omega
                obtain ⟨f1, f2⟩ := H7.few _ (List.getElem_mem hlt2)
                obtain ⟨i5, hi5, hz50, hz51, hz52⟩ := info_parts byte_row
                have K := put_yes A1 c1 _ S.R[j] _ O1.reads (Nat.le_refl _) f1 f2
                have hrl : (recd S.R[j]).length = S.R[j].length + 6 := recd_length _
                have hrl1 : (recd S.R[j]).length ≤ 8198 := by omega
                have hjl := joined_take_le S.R j
                have h63 : (joined (S.R.take j)).length + (recd S.R[j]).length ≤ maxLen := by unfold maxLen; omega
                have h47 : ((joined (S.R.take j)).length + (recd S.R[j]).length) * 1 ≤ 140737488355328 := by omega
                have HX := Lib.hid (List.take_succ_eq_append_getElem hlt2)
                clear hrl
                go_wp2_with fail
                refine K.mono ?_
                clear K
                rintro e w5 ⟨AP, cP, rfl, OP, bP⟩
                have O2 := OB.below bP (Nat.le_refl _)
                have b2 := bk.trans (bP.mono hwk)
                clear OB hcell O1 O7k R7k
                go_wp2_with (at_builtin; refine wpList_append_any _ rfl (.tmp 106) (.tmp 107) 32 rfl w7.heap.size 5 i5 _ 1 1 Try.underlying32 hi5 hz50 hz51 hz52 rfl (by omega) _ _ _ rfl O2 _ _ _ _ _ rfl OP.reads (bys_one _) h63 h47 b2.size ?_; intro v4 w8 o4 g4 at4)
                have O4 := own_rec o4
                have b4 := b2.grown g4 b2.size (fun k hk => (World.ownsRow.lt O2 k hk).1)
                clear O2 OP b2 o4 g4 bP
                go_wp2_with fail
                go_roundw
                case rel => exact ⟨j + 1, by omega, by go_num, by rw [HX.out]; exact O4, b4⟩
                case measure => simp [intOf]; omega
              · obtain rfl : j = S.R.length := by omega
                rw [List.take_length] at OB
                have H8 := H7.quiet (below_quiet2 bk)
                have b8 := b7a.trans (bk.mono hw7)
                have hw8 := b8.size
                obtain ⟨A8, c8, rfl⟩ := OB.form
                have K3 := bytes_of H8.disk (by omega)
                have hsm := joined_small H8.few
                clear O7 R7 H7 b7a bk
                go_wp2_with fail
                refine K3.mono ?_
                rintro e w9 ⟨A9, c9, rfl, O9, b9⟩
                have g9 := below_quiet2 b9
                have OB9 := own_quiet OB g9
                have H9 := H8.quiet g9
                obtain ⟨O79, R79⟩ := lists_quiet O7k R7k g9
                have b9a := b8.trans (b9.mono hw8)
                have hw9 := b9a.size
                have K4 := bytes_same A9 A8 c9 c8 _ _ (joined S.R) w9 O9.reads OB9.reads hsm
                clear K3 H8 OB b8 b9 g9 O7k R7k
                go_wp2_with fail
                refine K4.mono ?_
                rintro e wA ⟨rfl, rfl⟩
                have K5 := log_put H9 hFb (hf.below b9a) hw9 (fun ad e hb => by have := H9.wd; omega) hfr hfs
                clear K4 O9
                have hrs := HR.out
                have hw0 : IntKind.i64.wrap (size - ((joined S.R).length : Int)) = size - ((joined S.R).length : Int) := by simp [IntKind.wrap, IntKind.bits, IntKind.signed]; omega
                have hw1' : wrap64 (size - ((joined S.R).length : Int)) = size - ((joined S.R).length : Int) := by unfold wrap64; omega
                by_cases h8 : 8192 < f.length
                · have e5 : putL S f = (S, 3) := by
                    have ea : addL S f = (S, 3) := if_pos h8
                    unfold putL
                    rw [ea]
                    exact if_neg (by show ¬ (3 : Int) = 0; omega)
                  have t1 : decide ((f.length : Int) ≤ 8192) = false := by simp; omega
                  clear hrs
                  rw [e5] at K5
                  dsimp only at K5
                  clear e5
                  go_wp2_with fail
                  refine K5.mono ?_
                  rintro e wB ⟨AB, cB, ALB, cLB, xsB, rfl, HB, TB⟩
                  have gB := TB.2 (by decide)
                  have OBb := own_quiet OB9 gB
                  obtain ⟨O7b, R7b⟩ := lists_quiet O79 R79 gB
                  have bB := b9a.grown gB hw9 (by simp)
                  have hwB := bB.size
                  clear K5 TB H9 OB9 O79 R79 b9a gB
                  go_wp2_with fail
                  refine (first_any _).mono ?_
                  rintro e wC ⟨rfl, bC⟩
                  have gC := below_quiet2 bC
                  have HC := HB.quiet gC
                  have OBc := own_quiet OBb gC
                  obtain ⟨O7c, R7c⟩ := lists_quiet O7b R7b gC
                  have bC' := bB.trans (bC.mono hwB)
                  have hwC := bC'.size
                  have K6 := bytes_of HC.disk (by omega)
                  clear HB OBb O7b R7b bB bC gC
                  go_wp2_with fail
                  refine K6.mono ?_
                  rintro e wD ⟨AD, cD, rfl, OD, bD⟩
                  have gD := below_quiet2 bD
                  have HD := HC.quiet gD
                  have OBd := own_quiet OBc gD
                  obtain ⟨O7d, R7d⟩ := lists_quiet O7c R7c gD
                  have bD' := bC'.trans (bD.mono hwC)
                  have hwD := bD'.size
                  have K7 := bytes_same AD A8 cD c8 _ _ (joined S.R) wD OD.reads OBd.reads hsm
                  clear K6 HC OBc O7c R7c bC' bD gD
                  go_wp2_with fail
                  refine K7.mono ?_
                  rintro e wE ⟨rfl, rfl⟩
                  have K8 := log_records HD (by omega)
                  go_wp2_with fail
                  refine K8.mono ?_
                  rintro e wE ⟨AE, cE, yE, rfl, OE, RE, bE⟩
                  obtain ⟨O7e, R7e⟩ := lists_quiet O7d R7d (below_quiet2 bE)
                  have bE' := bD'.trans (bE.mono hwD)
                  have K9 := lists_same AE A7 cE c7 _ _ S.R wE (ListsAt.of_own OE RE) (ListsAt.of_own O7e R7e) (fun q hq => (HD.few q hq).1) (by omega)
                  go_wp2_with fail
                  refine K9.mono ?_
                  rintro e wF ⟨rfl, gF⟩
                  have bF := bE'.grown gF bE'.size (by simp)
                  go_wp2_with fail
                  go_ret
                  exact ⟨rfl, bF⟩
                · have t1 : decide ((f.length : Int) ≤ 8192) = true := by simp; omega
                  by_cases hfit : (f.length : Int) + 6 ≤ size - (joined S.R).length
                  · have t2 : decide (((joined S.R).length : Int) ≤ size) = true := by simp; omega
                    have t3 : decide ((f.length : Int) + 6 ≤ size - ((joined S.R).length : Int)) = true := by simp; omega
                    have e5 : putL S f = (⟨size, (joined (S.R ++ [f])).length, S.R ++ [f]⟩, 0) := by
                      have ea : addL S f = (⟨S.r, S.s, S.R ++ [f]⟩, 0) := (if_neg h8).trans (if_pos (by rw [hrs]; exact hfit))
                      unfold putL
                      rw [ea, ← hrs]
                      exact if_pos rfl
                    have hjn : (joined (S.R ++ [f])).length = (joined S.R).length + (f.length + 6) := by rw [joined_snoc, List.length_append, recd_length]
                    clear hrs
                    rw [e5] at K5
                    dsimp only at K5
                    clear e5
                    have HJ := Lib.hid hjn
                    clear hjn
                    go_wp2_with fail
                    refine K5.mono ?_
                    rintro e wB ⟨AB, cB, ALB, cLB, xsB, rfl, HB, TB⟩
                    have bB := b9a.trans (TB.below hw9 H9.wd H9.wp H9.lb)
                    have hwB := bB.size
                    have hRl2 : (S.R ++ [f]).length = S.R.length + 1 := by simp
                    have K6 := log_records HB (by show (S.R ++ [f]).length ≤ _; omega)
                    dsimp only at K6
                    rw [hRl2] at K6
                    clear K5 TB H9 OB9 O79 R79 b9a
                    go_wp2_with fail
                    refine K6.mono ?_
                    rintro e wC ⟨AC, cC, yC, rfl, OC, RC, bC⟩
                    have HC := HB.quiet (below_quiet2 bC)
                    have bC' := bB.trans (bC.mono hwB)
                    have hwC := bC'.size
                    clear K6 HB bB bC
                    go_wp2_with fail
                    refine (first_any _).mono ?_
                    rintro e wD ⟨rfl, bD⟩
                    have gD := below_quiet2 bD
                    have HD := HC.quiet gD
                    have OD := World.ownsRow.kept OC gD (by cases hv : (Value.slice AC (S.R.length + 1) cC).ownBlock <;> simp)
                    have hlast : (S.R ++ [f])[S.R.length]'(by rw [hRl2]; omega) = f := by simp
                    obtain ⟨A1, c1, ex, O1⟩ := RC.2 S.R.length (by rw [hRl2]; omega)
                    rw [hlast] at ex O1
                    have O1d := own_quiet O1 gD
                    have bD' := bC'.trans (bD.mono hwC)
                    have hwD := bD'.size
                    obtain ⟨g, cp, e8, hg, _⟩ := OD.form (by omega)
                    injection e8 with e81 _ e83
                    subst e81 e83
                    have hcell : wD.cell? ⟨g, S.R.length, none⟩ = some (Value.slice A1 f.length c1) := (World.ownsRow.cellAt OD S.R.length (by omega)).trans ex
                    have K7 := bytes_same A1 AF c1 cF _ _ f wD O1d.reads (hf.below bD') hfs
                    have K8 := synced_any HD.disk
                    have j0 : (0 : Int) ≤ (S.R.length : Int) := by omega
                    have j1 : (S.R.length : Int) < ((S.R.length + 1 : Nat) : Int) := by omega
                    have j1' : (S.R.length : Int) < (S.R.length : Int) + 1 := by omega
                    have t9 : (((joined (S.R ++ [f])).length : Int) == ((joined S.R).length : Int) + 6 + (f.length : Int)) = true := by rw [beq_iff_eq, HJ.out]; omega
                    have hJle : (joined (S.R ++ [f])).length ≤ 100000 := by rw [HJ.out]; omega
                    generalize (joined (S.R ++ [f])).length = J2 at K8 t9 hJle
                    clear HC OC O1 bC' bD gD OD RC hlast hRl2
                    go_wp2_with fail
                    refine K7.mono ?_
                    rintro e wE ⟨rfl, rfl⟩
                    go_wp2_with fail
                    refine K8.mono ?_
                    rintro e wE ⟨rfl, rfl⟩
                    go_wp2_with fail
                    go_ret
                    exact ⟨rfl, bD'⟩
                  · have e5 : putL S f = (S, 9) := by
                      have ea : addL S f = (S, 9) := (if_neg h8).trans (if_neg (by rw [hrs]; exact hfit))
                      unfold putL
                      rw [ea]
                      exact if_neg (by show ¬ (9 : Int) = 0; omega)
                    clear hrs
                    have t3 : decide ((f.length : Int) + 6 ≤ size - ((joined S.R).length : Int)) = false := by simp; omega
                    by_cases h9 : ((joined S.R).length : Int) ≤ size
                    · have t2 : decide (((joined S.R).length : Int) ≤ size) = true := by simp; omega
                      rw [e5] at K5
                      dsimp only at K5
                      clear e5
                      go_wp2_with fail
                      refine K5.mono ?_
                      rintro e wB ⟨AB, cB, ALB, cLB, xsB, rfl, HB, TB⟩
                      have gB := TB.2 (by decide)
                      have OBb := own_quiet OB9 gB
                      obtain ⟨O7b, R7b⟩ := lists_quiet O79 R79 gB
                      have bB := b9a.grown gB hw9 (by simp)
                      have hwB := bB.size
                      clear K5 TB H9 OB9 O79 R79 b9a gB
                      go_wp2_with fail
                      refine (first_any _).mono ?_
                      rintro e wC ⟨rfl, bC⟩
                      have gC := below_quiet2 bC
                      have HC := HB.quiet gC
                      have OBc := own_quiet OBb gC
                      obtain ⟨O7c, R7c⟩ := lists_quiet O7b R7b gC
                      have bC' := bB.trans (bC.mono hwB)
                      have hwC := bC'.size
                      have K6 := bytes_of HC.disk (by omega)
                      clear HB OBb O7b R7b bB bC gC
                      go_wp2_with fail
                      refine K6.mono ?_
                      rintro e wD ⟨AD, cD, rfl, OD, bD⟩
                      have gD := below_quiet2 bD
                      have HD := HC.quiet gD
                      have OBd := own_quiet OBc gD
                      obtain ⟨O7d, R7d⟩ := lists_quiet O7c R7c gD
                      have bD' := bC'.trans (bD.mono hwC)
                      have hwD := bD'.size
                      have K7 := bytes_same AD A8 cD c8 _ _ (joined S.R) wD OD.reads OBd.reads hsm
                      clear K6 HC OBc O7c R7c bC' bD gD
                      go_wp2_with fail
                      refine K7.mono ?_
                      rintro e wE ⟨rfl, rfl⟩
                      have K8 := log_records HD (by omega)
                      go_wp2_with fail
                      refine K8.mono ?_
                      rintro e wE ⟨AE, cE, yE, rfl, OE, RE, bE⟩
                      obtain ⟨O7e, R7e⟩ := lists_quiet O7d R7d (below_quiet2 bE)
                      have bE' := bD'.trans (bE.mono hwD)
                      have K9 := lists_same AE A7 cE c7 _ _ S.R wE (ListsAt.of_own OE RE) (ListsAt.of_own O7e R7e) (fun q hq => (HD.few q hq).1) (by omega)
                      go_wp2_with fail
                      refine K9.mono ?_
                      rintro e wF ⟨rfl, gF⟩
                      have bF := bE'.grown gF bE'.size (by simp)
                      go_wp2_with fail
                      go_ret
                      exact ⟨rfl, bF⟩
                    · have t2 : decide (((joined S.R).length : Int) ≤ size) = false := by simp; omega
                      rw [e5] at K5
                      dsimp only at K5
                      clear e5
                      go_wp2_with fail
                      refine K5.mono ?_
                      rintro e wB ⟨AB, cB, ALB, cLB, xsB, rfl, HB, TB⟩
                      have gB := TB.2 (by decide)
                      have OBb := own_quiet OB9 gB
                      obtain ⟨O7b, R7b⟩ := lists_quiet O79 R79 gB
                      have bB := b9a.grown gB hw9 (by simp)
                      have hwB := bB.size
                      clear K5 TB H9 OB9 O79 R79 b9a gB
                      go_wp2_with fail
                      refine (first_any _).mono ?_
                      rintro e wC ⟨rfl, bC⟩
                      have gC := below_quiet2 bC
                      have HC := HB.quiet gC
                      have OBc := own_quiet OBb gC
                      obtain ⟨O7c, R7c⟩ := lists_quiet O7b R7b gC
                      have bC' := bB.trans (bC.mono hwB)
                      have hwC := bC'.size
                      have K6 := bytes_of HC.disk (by omega)
                      clear HB OBb O7b R7b bB bC gC
                      go_wp2_with fail
                      refine K6.mono ?_
                      rintro e wD ⟨AD, cD, rfl, OD, bD⟩
                      have gD := below_quiet2 bD
                      have HD := HC.quiet gD
                      have OBd := own_quiet OBc gD
                      obtain ⟨O7d, R7d⟩ := lists_quiet O7c R7c gD
                      have bD' := bC'.trans (bD.mono hwC)
                      have hwD := bD'.size
                      have K7 := bytes_same AD A8 cD c8 _ _ (joined S.R) wD OD.reads OBd.reads hsm
                      clear K6 HC OBc O7c R7c bC' bD gD
                      go_wp2_with fail
                      refine K7.mono ?_
                      rintro e wE ⟨rfl, rfl⟩
                      have K8 := log_records HD (by omega)
                      go_wp2_with fail
                      refine K8.mono ?_
                      rintro e wE ⟨AE, cE, yE, rfl, OE, RE, bE⟩
                      obtain ⟨O7e, R7e⟩ := lists_quiet O7d R7d (below_quiet2 bE)
                      have bE' := bD'.trans (bE.mono hwD)
                      have K9 := lists_same AE A7 cE c7 _ _ S.R wE (ListsAt.of_own OE RE) (ListsAt.of_own O7e R7e) (fun q hq => (HD.few q hq).1) (by omega)
                      go_wp2_with fail
                      refine K9.mono ?_
                      rintro e wF ⟨rfl, gF⟩
                      have bF := bE'.grown gF bE'.size (by simp)
                      go_wp2_with fail
                      go_ret
                      exact ⟨rfl, bF⟩
end Go.Proofs.Ytkhbpaloicefdaa
