/- WalKeeps: the walk. -/
import Derived.Test.YtkhbpaloicefdaaFile2
namespace Go.Proofs.Ytkhbpaloicefdaa
open Go.RowKit
set_option linter.unusedVariables false
attribute [local go_sem ↓] Go.wp_at_zero Go.wp_at_succ
theorem endAt_mono {P : List (List Nat)} {i k : Nat} (h : i ≤ k) : endAt P i ≤ endAt P k := by
  have e : P.take k = P.take i ++ (P.take k).drop i := by
    have e1 : P.take i = (P.take k).take i := by rw [List.take_take, Nat.min_eq_left h]
    rw [e1, List.take_append_drop]
  unfold endAt
  rw [e, joined_append, List.length_append]
  omega
theorem cut_at (P : List (List Nat)) (cut : Nat) : ∀ k, ∃ n, n ≤ k ∧ endAt P n ≤ cut ∧ (n < k → cut < endAt P (n + 1))
  | 0 => ⟨0, Nat.le_refl _, by simp [endAt, joined], fun h => absurd h (by omega)⟩
  | k + 1 => by
    obtain ⟨n, h1, h2, h3⟩ := cut_at P cut k
    rcases Nat.lt_or_ge n k with h | h
    · exact ⟨n, by omega, h2, fun _ => h3 h⟩
    · obtain rfl : n = k := by omega
      by_cases h4 : endAt P (n + 1) ≤ cut
      · exact ⟨n + 1, Nat.le_refl _, h4, fun h => absurd h (by omega)⟩
      · exact ⟨n, by omega, h2, fun _ => by omega⟩
/-- So many records are sure. -/
structure Sure (S : Lg) (sf : Nat) : Prop where
  le : sf ≤ S.R.length
  s : endAt S.R sf ≤ S.s
theorem sure_all (r : Int) (R : List (List Nat)) : Sure ⟨r, (joined R).length, R⟩ R.length := ⟨Nat.le_refl _, by rw [endAt_all]; exact Nat.le_refl _⟩
theorem sure_add {S : Lg} {sf : Nat} (h : Sure S sf) (p : List Nat) : Sure (addL S p).1 sf := by
  unfold addL
  split
  · exact h
  split
  · exact ⟨by show sf ≤ (S.R ++ [p]).length; have := h.le; simp; omega, by show endAt (S.R ++ [p]) sf ≤ S.s; rw [endAt_snoc h.le]; exact h.s⟩
  · exact h
theorem putL_no {S : Lg} {p : List Nat} (h : (putL S p).2 ≠ 0) : (putL S p).1 = S := by
  unfold putL at h ⊢
  split
  · rename_i h0; rw [if_pos h0] at h; exact absurd rfl h
  · rename_i h0
    unfold addL at h0 ⊢
    split
    · rfl
    split
    · rename_i h1 h2; rw [if_neg h1, if_pos h2] at h0; exact absurd rfl h0
    · rfl
theorem putL_ok {S : Lg} {p : List Nat} (h : (putL S p).2 = 0) : Sure (putL S p).1 (putL S p).1.R.length := by
  unfold putL at h ⊢
  split
  · exact sure_all _ _
  · rename_i h0; rw [if_neg h0] at h; exact absurd h h0
theorem checkL_no {S : Lg} {P : List (List Nat)} (h : (checkL S P).2 ≠ 0) : (checkL S P).1 = S := by
  unfold checkL at h ⊢
  split
  · split
    · rename_i h1 h2; rw [if_pos h1, if_pos h2] at h; exact absurd rfl h
    · rfl
  · rfl
theorem checkL_ok {S : Lg} {P : List (List Nat)} (h : (checkL S P).2 = 0) : Sure (checkL S P).1 (checkL S P).1.R.length := by
  unfold checkL at h ⊢
  split
  · split
    · exact sure_all _ _
    · rename_i h1 h2; rw [if_pos h1, if_neg h2] at h; exact absurd h (by show ¬ (9 : Int) = 0; omega)
  · rename_i h1; rw [if_neg h1] at h; exact absurd h (by show ¬ (3 : Int) = 0; omega)
theorem lists_take {w : World} {B : Nat} {A : Option Addr} {L : List (List Nat)} (h : ListsAt w B A L) (n : Nat) : ListsAt w B A (L.take n) := by
  intro hn
  rw [List.length_take] at hn
  obtain ⟨ad, e, hb, hc⟩ := h (by omega)
  refine ⟨ad, e, hb, fun k hk => ?_⟩
  rw [List.length_take] at hk
  obtain ⟨A', c', h1, h2⟩ := hc k (by omega)
  rw [List.getElem_take]
  exact ⟨A', c', h1, h2⟩
theorem list_room {w : World} {base n c : Nat} {A : Option Addr} {xs : List Value} (h : w.ownsRow base 32 1 (.slice A n c) n xs) : n ≤ c ∧ c ≤ maxLen := by
  rcases h.2 with ⟨h1, hx⟩ | ⟨g, cp, cur, h1, h2, h3, h4, h5, _⟩
  · injection h1 with _ e1 e2
    subst e1 e2
    exact ⟨Nat.le_refl _, Nat.zero_le _⟩
  · injection h1 with _ e1 e2
    subst e2
    exact ⟨h4, h5⟩
set_option maxRecDepth 100000 in
set_option maxHeartbeats 16000000 in
theorem keeps_law (size : Int) (A : Option Addr) (c : Nat) (L : List WOp) (keep : Int) (w : World) (ha : OpsAt w w.heap.size A L) (hl : L.length ≤ maxLen) (hz1 : -9223372036854775808 ≤ size) (hz2 : size ≤ 9223372036854775807) (hk1 : -9223372036854775808 ≤ keep) (hk2 : keep ≤ 9223372036854775807) :
    Calls Try.prog 3 #[.int .i64 size, .slice A L.length c, .int .i64 keep] w fun e w' => e = .returned (.bool true) ∧ Below w.heap.size w w' := by
  have hl' := hl
  unfold maxLen at hl'
  by_cases hsz : 0 ≤ size ∧ size ≤ 1073741824
  case neg =>
    go_enter Try.func3, Try.ntmps3
    go_wp2_with fail
    refine (first_any _).mono ?_
    rintro e w1 ⟨rfl, b1⟩
    have hw1 := b1.size
    have K := new_no size hsz w1
    clear hsz
    go_wp2_with fail
    refine K.mono ?_
    rintro e w2 ⟨rfl, rfl⟩
    go_wp2_with fail
    refine (first_any _).mono ?_
    rintro e w3 ⟨rfl, b3⟩
    go_wp2_with fail
    go_ret
    exact ⟨rfl, b1.trans (b3.mono hw1)⟩
  case pos =>
    obtain ⟨z0, z1⟩ := hsz
    go_enter Try.func3, Try.ntmps3
    go_wp2_with fail
    refine (first_any _).mono ?_
    rintro e w1 ⟨rfl, b1⟩
    have hw1 := b1.size
    go_wp2_with fail
    refine (new_yes size z0 z1 _).mono ?_
    rintro e w2 ⟨rfl, rfl⟩
    have D1 : DiskAt _ w1.heap.size size ((0 : Nat) : Int) none 0 [] := DiskAt.new_ w1 size
    have b2 := b1.alloc hw1 (.cells #[.int .i64 size, .int .i64 0, .slice none 0 0] 62)
    generalize w1.alloc (.cells #[.int .i64 size, .int .i64 0, .slice none 0 0] 62) = w2 at D1 b2 ⊢
    obtain ⟨d, hd⟩ : ∃ d, d = w1.heap.size := ⟨_, rfl⟩
    rw [← hd] at D1 hw1 ⊢
    clear hd b1
    have hw2 := b2.size
    have hF := few_any A c _ L w2 (ha.below b2) hl
    go_wp2_with fail
    refine hF.mono ?_
    clear hF
    rintro e w3 ⟨t, rfl, rfl, ht⟩
    cases t with
    | false =>
      clear ht
      go_wp2_with fail
      refine (first_any _).mono ?_
      rintro e w3 ⟨rfl, b3⟩
      go_wp2_with fail
      go_ret
      exact ⟨rfl, b2.trans (b3.mono hw2)⟩
    | true =>
      obtain ⟨hl1, hT, hLs⟩ := ht rfl
      clear ht
      have K1 := open_any D1 (Nat.zero_le _) (by simp)
      have hs0 : scand [] = ([], 0) := scand_nil
      rw [hs0] at K1
      have hd2 := D1.lt
      clear hs0
      go_wp2_with fail
      refine K1.mono ?_
      rintro e w4 ⟨p, A4, c4, AL4, cL4, xs4, rfl, hp, hL, g4⟩
      have H4 := hL w.heap.size hw2 hw1
      have b4 := b2.grown g4 hw2 (fun k e => by injection e with e; omega)
      have hF4 : Fine ⟨size, min 0 0, []⟩ (1800 + weight (L.take 0) + 6 * 0) := ⟨z0, z1, by simp, by simp [joined]⟩
      have hU4 : Sure ⟨size, min 0 0, []⟩ 0 := ⟨by simp, by simp [endAt, joined]⟩
      clear K1 hL D1 b2 g4
      go_wp2_with fail
      go_loopw [11, 12] (fun sv kv wr => ∃ (j sf : Nat) (S : Lg) (A' : Option Addr) (c' : Nat) (AL : Option Addr) (cL : Nat) (xs : List Value), j ≤ L.length ∧ sv = .int .i64 (sf : Int) ∧ kv = .int .i64 (j : Int) ∧ LogAt wr w.heap.size p d S A' c' AL cL xs ∧ Fine S (1800 + weight (L.take j) + 6 * j) ∧ Sure S sf ∧ Below w.heap.size w wr) (fun _ kv _ => L.length - (intOf kv).toNat)
      case atStart => exact ⟨0, 0, _, A4, c4, AL4, cL4, xs4, Nat.zero_le _, rfl, rfl, H4, hF4, hU4, b4⟩
      case round =>
        clear H4 hF4 hU4 b4
        obtain ⟨j, sf, S, A5, c5, AL5, cL5, xs5, hj, rfl, rfl, H, hF, hU, b⟩ := hrel
        have hw := b.size
        by_cases hlt : j < L.length
        · obtain ⟨ad, rfl, O⟩ := ha j hlt
          have O' := O.below b
          obtain ⟨A1, c1, p1, R1, rm⟩ := O'.bs
          obtain ⟨A2, c2, p2, hps, hpl⟩ := O'.rows
          have hk := O'.k
          have i0 : (0 : Int) ≤ (j : Int) := by omega
          have i1 : (j : Int) < (L.length : Int) := by omega
          have hws := weight_snoc hlt
          have hwl := weight_le (L := L) (j + 1)
          have hl3 := hLs _ (List.getElem_mem hlt)
          have hwt : L[j].b.length + total L[j].ls = wt L[j] := rfl
          have hFb : Fine S 300000 := hF.more (by omega)
          have HU := Lib.hid hU
          clear hU
          by_cases k0 : L[j].k = 0
          · have hF2 : Fine (addL S L[j].b).1 (1800 + weight (L.take (j + 1)) + 6 * (j + 1)) := (addL_fine hF L[j].b).more (by omega)
            have K := log_add H hFb R1 hw (fun ad e hb => by have := H.wd; omega) rm O'.s
            have HF2 := Lib.hid hF2
            clear hF2 hws hwt
            rw [k0] at hk
            go_wp2_with fail
            refine K.mono ?_
            rintro e w6 ⟨A6, c6, AL6, cL6, xs6, rfl, H6, T6⟩
            have b6 := b.trans (T6.below hw H.wd H.wp H.lb)
            clear K H T6 b
            go_wp2_with fail
            go_roundw
            case rel => exact ⟨j + 1, sf, _, A6, c6, AL6, cL6, xs6, by omega, rfl, by go_num, H6, HF2.out, sure_add HU.out _, b6⟩
            case measure => simp [intOf]; omega
          · have q0 : (L[j].k == 0) = false := by simp; omega
            by_cases k1 : L[j].k = 1
            · have hF2 : Fine (syncL S) (1800 + weight (L.take (j + 1)) + 6 * (j + 1)) := (syncL_fine hF).more (by omega)
              have hR6 := joined_len S.R
              have hRl : S.R.length ≤ 50000 := by have := hF.l; omega
              have K := log_sync H
              have HF2 := Lib.hid hF2
              clear hF2 hws hwt q0 k0
              rw [k1] at hk
              go_wp2_with fail
              refine K.mono ?_
              rintro e w6 ⟨rfl, H6, g6⟩
              have b6 := b.grown g6 hw (fun k e => by injection e with e; have := H.wd; omega)
              have hw6 := b6.size
              have K2 := log_records H6 (by show S.R.length ≤ _; omega)
              have hRe : (syncL S).R.length = S.R.length := rfl
              rw [hRe] at K2
              clear K H b g6 hRe
              go_wp2_with fail
              refine K2.mono ?_
              rintro e w7 ⟨A7, c7, y7, rfl, O7, R7, b7⟩
              have H7 := H6.quiet (below_quiet2 b7)
              have b7' := b6.trans (b7.mono hw6)
              clear K2 H6 b6 b7
              go_wp2_with fail
              go_roundw
              case rel => exact ⟨j + 1, S.R.length, _, A5, c5, AL5, cL5, xs5, by omega, rfl, by go_num, H7, HF2.out, sure_all _ _, b7'⟩
              case measure => simp [intOf]; omega
            · have q1 : (L[j].k == 1) = false := by simp; omega
              by_cases k2 : L[j].k = 2
              · have hF2 : Fine (putL S L[j].b).1 (1800 + weight (L.take (j + 1)) + 6 * (j + 1)) := (putL_fine hF L[j].b).more (by omega)
                have K := log_put H hFb R1 hw (fun ad e hb => by have := H.wd; omega) rm O'.s
                have hno := Lib.hid (putL_no (S := S) (p := L[j].b))
                have hok := Lib.hid (putL_ok (S := S) (p := L[j].b))
                have hl6 := joined_len (putL S L[j].b).1.R
                have hl7 := hF2.l
                have HF2 := Lib.hid hF2
                clear hF2 hws hwt q0 q1 k0 k1
                generalize putL S L[j].b = Z at K HF2 hno hok hl6 hl7
                obtain ⟨S1, z⟩ := Z
                dsimp only at K HF2 hno hok hl6 hl7
                rw [k2] at hk
                by_cases hz : z = 0
                · subst hz
                  go_wp2_with fail
                  refine K.mono ?_
                  rintro e w6 ⟨A6, c6, AL6, cL6, xs6, rfl, H6, T6⟩
                  have b6 := b.trans (T6.below hw H.wd H.wp H.lb)
                  have hw6 := b6.size
                  have K2 := log_records H6 (by omega)
                  clear K H T6 b
                  go_wp2_with fail
                  refine K2.mono ?_
                  rintro e w7 ⟨A7, c7, y7, rfl, O7, R7, b7⟩
                  have H7 := H6.quiet (below_quiet2 b7)
                  have b7' := b6.trans (b7.mono hw6)
                  clear K2 H6 b6 b7
                  go_wp2_with fail
                  go_roundw
                  case rel => exact ⟨j + 1, S1.R.length, _, A6, c6, AL6, cL6, xs6, by omega, rfl, by go_num, H7, HF2.out, hok.out trivial, b7'⟩
                  case measure => simp [intOf]; omega
                · have hzb : (z == 0) = false := by simpa using hz
                  have HZ := Lib.hid hz
                  clear hz
                  go_wp2_with fail
                  refine K.mono ?_
                  rintro e w6 ⟨A6, c6, AL6, cL6, xs6, rfl, H6, T6⟩
                  have b6 := b.trans (T6.below hw H.wd H.wp H.lb)
                  clear K H T6 b
                  go_wp2_with fail
                  go_roundw
                  case rel => exact ⟨j + 1, sf, _, A6, c6, AL6, cL6, xs6, by omega, rfl, by go_num, H6, HF2.out, by rw [hno.out HZ.out]; exact HU.out, b6⟩
                  case measure => simp [intOf]; omega
              · have q2 : (L[j].k == 2) = false := by simp; omega
                by_cases k3 : L[j].k = 3
                · have hjt := joined_total L[j].ls
                  have hF2 : Fine (checkL S L[j].ls).1 (1800 + weight (L.take (j + 1)) + 6 * (j + 1)) := (checkL_fine hF L[j].ls (Nat.le_refl _)).more (by omega)
                  have K := log_check (c2 := c2) H hFb hps (fun _ => Nat.le_refl _) hw (by omega) (by omega)
                  have hno := Lib.hid (checkL_no (S := S) (P := L[j].ls))
                  have hok := Lib.hid (checkL_ok (S := S) (P := L[j].ls))
                  have hl6 := joined_len (checkL S L[j].ls).1.R
                  have hl7 := hF2.l
                  have HF2 := Lib.hid hF2
                  clear hF2 hws hwt q0 q1 q2 k0 k1 k2 hjt
                  generalize checkL S L[j].ls = Z at K HF2 hno hok hl6 hl7
                  obtain ⟨S1, z⟩ := Z
                  dsimp only at K HF2 hno hok hl6 hl7
                  rw [k3] at hk
                  by_cases hz : z = 0
                  · subst hz
                    go_wp2_with fail
                    refine K.mono ?_
                    rintro e w6 ⟨A6, c6, AL6, cL6, xs6, rfl, H6, T6⟩
                    have b6 := b.trans (T6.below hw H.wd H.wp H.lb)
                    have hw6 := b6.size
                    have K2 := log_records H6 (by omega)
                    clear K H T6 b
                    go_wp2_with fail
                    refine K2.mono ?_
                    rintro e w7 ⟨A7, c7, y7, rfl, O7, R7, b7⟩
                    have H7 := H6.quiet (below_quiet2 b7)
                    have b7' := b6.trans (b7.mono hw6)
                    clear K2 H6 b6 b7
                    go_wp2_with fail
                    go_roundw
                    case rel => exact ⟨j + 1, S1.R.length, _, A6, c6, AL6, cL6, xs6, by omega, rfl, by go_num, H7, HF2.out, hok.out trivial, b7'⟩
                    case measure => simp [intOf]; omega
                  · have hzb : (z == 0) = false := by simpa using hz
                    have HZ := Lib.hid hz
                    clear hz
                    go_wp2_with fail
                    refine K.mono ?_
                    rintro e w6 ⟨A6, c6, AL6, cL6, xs6, rfl, H6, T6⟩
                    have b6 := b.trans (T6.below hw H.wd H.wp H.lb)
                    clear K H T6 b
                    go_wp2_with fail
                    go_roundw
                    case rel => exact ⟨j + 1, sf, _, A6, c6, AL6, cL6, xs6, by omega, rfl, by go_num, H6, HF2.out, by rw [hno.out HZ.out]; exact HU.out, b6⟩
                    case measure => simp [intOf]; omega
                · have q3 : (L[j].k == 3) = false := by simp; omega
                  have hF2 : Fine S (1800 + weight (L.take (j + 1)) + 6 * (j + 1)) := hF.more (by omega)
                  have HF2 := Lib.hid hF2
                  clear hF2 hws hwt k0 k1 k2 k3
                  generalize L[j].k = kk at *
                  go_wp2_with fail
                  go_roundw
                  case rel => exact ⟨j + 1, sf, _, A5, c5, AL5, cL5, xs5, by omega, rfl, by go_num, H, HF2.out, HU.out, b⟩
                  case measure => simp [intOf]; omega
        · obtain rfl : j = L.length := by omega
          rw [List.take_length] at hF
          have hjS := hF.l
          have hjS2 : (joined S.R).length ≤ 22400 := by omega
          have hR6 := joined_len S.R
          have hRl : S.R.length ≤ 4000 := by omega
          have K2 := log_records H (by omega)
          go_wp2_with fail
          refine K2.mono ?_
          rintro e w7 ⟨A7, c7, y7, rfl, O7, R7, b7⟩
          have H7 := H.quiet (below_quiet2 b7)
          have b7a := b.trans (b7.mono hw)
          have hw7 := b7a.size
          have hwW := H.wd
          clear K2 H b b7
          have hcut := left_le (keep := keep) hF.s
          have K3 := crash_new H7.disk keep hk1 hk2 hF.s (by omega)
          obtain ⟨n, hn1, hn2, hn3⟩ := cut_at S.R (left_ S.s (joined S.R).length keep) S.R.length
          have hsfn : sf ≤ n := by
            rcases Nat.lt_or_ge n sf with h | h
            · have h4 := hn3 (by have := hU.le; omega)
              have h5 := endAt_mono (P := S.R) (show n + 1 ≤ sf by omega)
              have h6 := hU.s
              omega
            · exact h
          have hsc := scand_cut (fun q hq => (H7.few q hq).2) hn1 hn2 hn3 hcut.2
          have hlc : ((joined S.R).take (left_ S.s (joined S.R).length keep)).length = left_ S.s (joined S.R).length keep := by rw [List.length_take]; omega
          have hen : endAt S.R n = (joined (S.R.take n)).length := rfl
          generalize left_ S.s (joined S.R).length keep = cut at K3 hcut hn2 hn3 hsc hlc
          generalize hT : (joined S.R).take cut = T at K3 hsc hlc
          clear hT hn3
          have hsR := hF.s
          have hfew := H7.few
          go_wp2_with fail
          refine K3.mono ?_
          rintro e w8 ⟨A8, c8, rfl, D8, g8, F8⟩
          have O7a := World.ownsRow.kept O7 g8 (own_blk O7 H7.disk.blk (by decide))
          have R7a : RowsIn w8 _ y7 S.R := ⟨R7.1, fun k hk => by
            obtain ⟨A', c', e, O⟩ := R7.2 k hk
            exact ⟨A', c', e, O.grown g8 (own_blk O H7.disk.blk (by decide))⟩⟩
          have b8 := b7a.grown g8 hw7 (fun k e => by injection e with e; omega)
          have hw8 := b8.size
          clear K3 H7 O7 R7 b7a g8 F8
          have K4 := open_any D8 (by omega) (by omega)
          rw [hsc] at K4
          dsimp only at K4
          go_wp2_with fail
          refine K4.mono ?_
          rintro e w9 ⟨pk, A9, c9, AL9, cL9, xs9, rfl, hpk, hL9, g9⟩
          have H9 := hL9 w.heap.size hw8 hwW
          have O7b := World.ownsRow.kept O7a g9 (own_blk O7a D8.blk (by decide))
          have R7b : RowsIn w9 _ y7 S.R := ⟨R7a.1, fun k hk => by
            obtain ⟨A', c', e, O⟩ := R7a.2 k hk
            exact ⟨A', c', e, O.grown g9 (own_blk O D8.blk (by decide))⟩⟩
          have b9 := b8.grown g9 hw8 (fun k e => by injection e with e; omega)
          have hw9 := b9.size
          clear K4 hL9 D8 O7a R7a b8 g9 hsc hlc
          have hnl : (S.R.take n).length = n := by rw [List.length_take]; omega
          have K5 := log_records H9 (by show (S.R.take n).length ≤ _; omega)
          dsimp only at K5
          rw [hnl] at K5
          go_wp2_with fail
          refine K5.mono ?_
          rintro e wA ⟨AA, cA, yA, rfl, OA, RA, bA⟩
          have gA := below_quiet2 bA
          have HA := H9.quiet gA
          obtain ⟨O7c, R7c⟩ := lists_quiet O7b R7b gA
          have bA' := b9.trans (bA.mono hw9)
          have hwA := bA'.size
          clear K5 H9 O7b R7b b9 bA gA
          have hf8 : ∀ q ∈ S.R.take n, q.length ≤ 8192 := fun q hq => (hfew q (List.mem_of_mem_take hq)).2
          have hsw : scand (joined (S.R.take n)) = (S.R.take n, (joined (S.R.take n)).length) := scand_whole hf8
          have hjn := joined_take_le S.R n
          have K6 := open_any HA.disk (by show min cut (endAt S.R n) ≤ (joined (S.R.take n)).length; omega) (by show (joined (S.R.take n)).length ≤ _; omega)
          rw [hsw] at K6
          dsimp only at K6
          rw [Int.sub_self] at K6
          go_wp2_with fail
          refine K6.mono ?_
          rintro e wB ⟨pb, AB, cB, ALB, cLB, xsB, rfl, hpb, hLB, gB⟩
          have HB := hLB w.heap.size hwA hwW
          have O7d := World.ownsRow.kept O7c gB (own_blk O7c HA.disk.blk (by decide))
          have R7d : RowsIn wB _ y7 S.R := ⟨R7c.1, fun k hk => by
            obtain ⟨A', c', e, O⟩ := R7c.2 k hk
            exact ⟨A', c', e, O.grown gB (own_blk O HA.disk.blk (by decide))⟩⟩
          have OAd := World.ownsRow.kept OA gB (own_blk OA HA.disk.blk (by decide))
          have RAd : RowsIn wB _ yA (S.R.take n) := ⟨RA.1, fun k hk => by
            obtain ⟨A', c', e, O⟩ := RA.2 k hk
            exact ⟨A', c', e, O.grown gB (own_blk O HA.disk.blk (by decide))⟩⟩
          have bB := bA'.grown gB hwA (fun k e => by injection e with e; omega)
          have hwB := bB.size
          clear K6 hLB HA O7c R7c OA RA bA' gB
          have t1 : decide ((sf : Int) ≤ (n : Int)) = true := by simp; omega
          have t2 : decide ((n : Int) ≤ (S.R.length : Int)) = true := by simp; omega
          go_wp2_with fail
          refine (first_any _).mono ?_
          rintro e wC ⟨rfl, bC⟩
          have gC := below_quiet2 bC
          have HC := HB.quiet gC
          obtain ⟨O7e, R7e⟩ := lists_quiet O7d R7d gC
          have OAd' : wB.ownsRow w9.heap.size 32 1 (.slice AA (S.R.take n).length cA) (S.R.take n).length yA := by rw [hnl]; exact OAd
          obtain ⟨OAe, RAe⟩ := lists_quiet OAd' RAd gC
          have bC' := bB.trans (bC.mono hwB)
          have hwC := bC'.size
          have hroom := list_room O7e
          have K7 := lists_same AA A7 cA c7 _ _ (S.R.take n) wC (ListsAt.of_own OAe RAe) (lists_take (ListsAt.of_own O7e R7e) n) (fun q hq => (hfew q (List.mem_of_mem_take hq)).1) (by omega)
          rw [hnl] at K7
          have n0 : (0 : Int) ≤ (n : Int) := by omega
          have nc : (n : Int) ≤ (c7 : Int) := by omega
          clear HB O7d R7d OAd OAd' RAd bB bC gC
          go_wp2_with fail
          refine K7.mono ?_
          rintro e wD ⟨rfl, gD⟩
          have HD := HC.quiet gD
          obtain ⟨OAf, RAf⟩ := lists_quiet OAe RAe gD
          have bD := bC'.grown gD hwC (by simp)
          have hwD := bD.size
          have K8 := log_records HD (by show (S.R.take n).length ≤ _; omega)
          dsimp only at K8
          rw [hnl] at K8
          clear K7 HC OAe RAe bC' gD
          go_wp2_with fail
          refine K8.mono ?_
          rintro e wE ⟨AE, cE, yE, rfl, OE, RE, bE⟩
          have gE := below_quiet2 bE
          obtain ⟨OAg, RAg⟩ := lists_quiet OAf RAf gE
          have OE' : wE.ownsRow wD.heap.size 32 1 (.slice AE (S.R.take n).length cE) (S.R.take n).length yE := by rw [hnl]; exact OE
          have bE' := bD.trans (bE.mono hwD)
          have K9 := lists_same AE AA cE cA _ _ (S.R.take n) wE (ListsAt.of_own OE' RE) (ListsAt.of_own OAg RAg) (fun q hq => (hfew q (List.mem_of_mem_take hq)).1) (by omega)
          rw [hnl] at K9
          go_wp2_with fail
          refine K9.mono ?_
          rintro e wF ⟨rfl, gF⟩
          have bF := bE'.grown gF bE'.size (by simp)
          go_wp2_with fail
          go_ret
          exact ⟨rfl, bF⟩
end Go.Proofs.Ytkhbpaloicefdaa
