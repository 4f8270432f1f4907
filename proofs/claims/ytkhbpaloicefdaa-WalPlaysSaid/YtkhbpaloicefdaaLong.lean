/- WalLong: the walk. -/
import Derived.Test.YtkhbpaloicefdaaOps
namespace Go.Proofs.Ytkhbpaloicefdaa
open Go.RowKit
set_option linter.unusedVariables false
attribute [local go_sem ↓] Go.wp_at_zero Go.wp_at_succ
theorem made_zeros (n : Nat) : (madeCells (Value.int .u8 0).cells (n * 1)).toList = bys (List.replicate n 0) := by
  apply List.ext_getElem?
  intro i
  by_cases hi : i < n
  · simp [madeCells, bys, hi, Value.cells, Nat.mod_one]
  · simp [madeCells, bys, hi, Value.cells]
theorem made_own (w : World) (n : Nat) (hn : n ≤ 100000) : ∃ w', (Instr.makeSlice 32 (.int .i64 (n : Int)) (.int .i64 (n : Int))).run Try.prog w = .ok (.slice (some ⟨w.heap.size, 0, none⟩) n n) w' ∧ Own w' w.heap.size (.slice (some ⟨w.heap.size, 0, none⟩) n n) (List.replicate n 0) ∧ w.grownBy w' none := by
  obtain ⟨i5, hi5, hz50, hz51, hz52⟩ := info_parts byte_row
  obtain ⟨w', h1, h2, h3⟩ := run_makeSlice_full (P := Try.prog) w w.heap.size 32 5 i5 _ 1 Try.underlying32 hi5 hz50 hz51 .i64 .i64 n (by omega) (by rw [hz52]; omega) (by unfold maxLen; omega) (Nat.le_refl _)
  rw [made_zeros] at h2
  exact ⟨w', h1, by unfold Own; rw [List.length_replicate]; exact h2, h3⟩
theorem quiet_two (w : World) (o o' : Obj) : w.grownBy ((w.alloc o).alloc o') none := grown_to (alloc_grown w o) (alloc_grown _ o')
/-- A row and a list of one's own stay. -/
theorem own_quiet {w w' : World} {base : Nat} {v : Value} {l : List Nat} (h : Own w base v l) (g : w.grownBy w' none) : Own w' base v l := h.grown g (by cases hv : v.ownBlock <;> simp)
theorem lists_quiet {w w' : World} {base base' c : Nat} {A : Option Addr} {L : List (List Nat)} {xs : List Value} (h : w.ownsRow base 32 1 (.slice A L.length c) L.length xs) (R : RowsIn w base' xs L) (g : w.grownBy w' none) : w'.ownsRow base 32 1 (.slice A L.length c) L.length xs ∧ RowsIn w' base' xs L :=
  ⟨World.ownsRow.kept h g (by cases hv : (Value.slice A L.length c).ownBlock <;> simp), R.1, fun k hk => by obtain ⟨A', c', e, O⟩ := R.2 k hk; exact ⟨A', c', e, own_quiet O g⟩⟩
theorem two_rows {w : World} {v0 v1 : Value} {base : Nat} {l0 l1 : List Nat} {A0 A1 : Option Addr} {c0 c1 : Nat} (e0 : v0 = .slice A0 l0.length c0) (e1 : v1 = .slice A1 l1.length c1) (h0 : Own w base v0 l0) (h1 : Own w base v1 l1) (s0 : Small l0) (s1 : Small l1) : PsAt (w.alloc (.cells #[v0, v1] 32)) (w.alloc (.cells #[v0, v1] 32)).heap.size (some ⟨w.heap.size, 0, none⟩) [l0, l1] := by
  subst e0 e1
  have h := World.ownsRow_lit w (base := w.heap.size) (e := 32) (size := 1) #[.slice A0 l0.length c0, .slice A1 l1.length c1] 2 (Nat.le_refl _) (by simp [maxLen]) rfl
  refine PsAt.of_own (L := [l0, l1]) (xs := [.slice A0 l0.length c0, .slice A1 l1.length c1]) (base' := base) h ⟨rfl, fun k hk => ?_⟩ (by intro l hl; simp at hl; rcases hl with rfl | rfl <;> assumption)
  match k, hk with
  | 0, _ => exact ⟨A0, c0, rfl, h0.alloc _⟩
  | 1, _ => exact ⟨A1, c1, rfl, h1.alloc _⟩
set_option maxRecDepth 100000 in
set_option maxHeartbeats 16000000 in
theorem long_law (A : Option Addr) (c : Nat) (L : List WOp) (more : Int) (w : World) (ha : OpsAt w w.heap.size A L) (hl : L.length ≤ maxLen) (hm1 : -9223372036854775808 ≤ more) (hm2 : more ≤ 9223372036854775807) :
    Calls Try.prog 5 #[.slice A L.length c, .int .i64 more] w fun e w' => e = .returned (.bool true) ∧ Below w.heap.size w w' := by
  have hl' := hl
  unfold maxLen at hl'
  go_enter Try.func5, Try.ntmps5
  go_wp2_with fail
  refine (first_any _).mono ?_
  rintro e w1 ⟨rfl, b1⟩
  have hw1 := b1.size
  go_wp2_with fail
  refine (new_yes 1048576 (by omega) (by omega) _).mono ?_
  rintro e w2 ⟨rfl, rfl⟩
  have D1 : DiskAt _ w1.heap.size 1048576 ((0 : Nat) : Int) none 0 [] := DiskAt.new_ w1 1048576
  have b2 := b1.alloc hw1 (.cells #[.int .i64 1048576, .int .i64 0, .slice none 0 0] 62)
  generalize w1.alloc (.cells #[.int .i64 1048576, .int .i64 0, .slice none 0 0] 62) = w2 at D1 b2 ⊢
  obtain ⟨d, hd⟩ : ∃ d, d = w1.heap.size := ⟨_, rfl⟩
  rw [← hd] at D1 hw1 ⊢
  clear hd b1
  have hw2 := b2.size
  have hF := few_any A c _ L w2 (ha.below b2) hl
  go_wp2_with fail
  refine hF.mono ?_
  clear hF
  rintro e w3 ⟨t, rfl, rfl, ht⟩
  cases t with
  | false =>
    clear ht
    go_wp2_with fail
    refine (first_any _).mono ?_
    rintro e w3 ⟨rfl, b3⟩
    go_wp2_with fail
    go_ret
    exact ⟨rfl, b2.trans (b3.mono hw2)⟩
  | true =>
    obtain ⟨hl1, hT, _⟩ := ht rfl
    clear ht
    rcases (show more < 1 ∨ (¬ more < 1 ∧ 100 < more) ∨ (¬ more < 1 ∧ ¬ 100 < more) by omega) with q1 | ⟨q1, q2⟩ | ⟨q1, q2⟩
    · go_wp2_with fail
      refine (first_any _).mono ?_
      rintro e w3 ⟨rfl, b3⟩
      go_wp2_with fail
      go_ret
      exact ⟨rfl, b2.trans (b3.mono hw2)⟩
    · go_wp2_with fail
      refine (first_any _).mono ?_
      rintro e w3 ⟨rfl, b3⟩
      go_wp2_with fail
      go_ret
      exact ⟨rfl, b2.trans (b3.mono hw2)⟩
    · obtain ⟨m, rfl⟩ := Int.eq_ofNat_of_zero_le (show 0 ≤ more by omega)
      have hm0 : 1 ≤ m := by omega
      have hm9 : m ≤ 100 := by omega
      have K1 := open_any D1 (Nat.zero_le _) (by simp)
      have hs0 : scand [] = ([], 0) := scand_nil
      rw [hs0] at K1
      have hd2 := D1.lt
      clear hs0
      go_wp2_with fail
      refine K1.mono ?_
      rintro e w4 ⟨p, A4, c4, AL4, cL4, xs4, rfl, hp, hL, g4⟩
      have H4 := hL w.heap.size hw2 hw1
      have b4 := b2.grown g4 hw2 (fun k e => by injection e with e; omega)
      have hF4 : Fine ⟨1048576, min 0 0, []⟩ (weight (L.take 0) + 6 * 0) := ⟨by simp, by simp, by simp, by simp [joined]⟩
      clear K1 hL D1 b2 g4
      go_wp2_with fail
      go_loopw [9] (fun kv wr => ∃ (j : Nat) (S : Lg) (A' : Option Addr) (c' : Nat) (AL : Option Addr) (cL : Nat) (xs : List Value), j ≤ L.length ∧ kv = .int .i64 (j : Int) ∧ LogAt wr w.heap.size p d S A' c' AL cL xs ∧ Fine S (weight (L.take j) + 6 * j) ∧ Below w.heap.size w wr) (fun kv _ => L.length - (intOf kv).toNat)
      case atStart => exact ⟨0, _, A4, c4, AL4, cL4, xs4, Nat.zero_le _, rfl, H4, hF4, b4⟩
      case round =>
        clear H4 hF4 b4
        obtain ⟨j, S, A5, c5, AL5, cL5, xs5, hj, rfl, H, hF, b⟩ := hrel
        have hw := b.size
        by_cases hlt : j < L.length
        · obtain ⟨ad, rfl, O⟩ := ha j hlt
          have O' := O.below b
          obtain ⟨A1, c1, p1, R1, rm⟩ := O'.bs
          have i0 : (0 : Int) ≤ (j : Int) := by omega
          have i1 : (j : Int) < (L.length : Int) := by omega
          have hws := weight_snoc hlt
          have hwl := weight_le (L := L) (j + 1)
          have hwt : L[j].b.length ≤ wt L[j] := by unfold wt; omega
          have hF' := addL_fine hF L[j].b
          have hF2 : Fine (addL S L[j].b).1 (weight (L.take (j + 1)) + 6 * (j + 1)) := hF'.more (by omega)
          have K := log_add H (hF.more (by omega)) R1 hw (fun ad e hb => by have := H.wd; omega) rm O'.s
          have HF2 := Lib.hid hF2
          clear hF' hF2 hws
          go_wp2_with fail
          refine K.mono ?_
          rintro e w6 ⟨A6, c6, AL6, cL6, xs6, rfl, H6, T6⟩
          have b6 := b.trans (T6.below hw H.wd H.wp H.lb)
          clear K H T6 b
          go_wp2_with fail
          go_roundw
          case rel => exact ⟨j + 1, _, A6, c6, AL6, cL6, xs6, by omega, by go_num, H6, HF2.out, b6⟩
          case measure => simp [intOf]; omega
        · obtain rfl : j = L.length := by omega
          rw [List.take_length] at hF
          have hjS := hF.l
          have hR6 := joined_len S.R
          have K1 := bytes_of H.disk (by omega)
          go_wp2_with fail
          refine K1.mono ?_
          rintro e w6 ⟨A6, c6, rfl, O6, b6⟩
          have H6 := H.quiet (below_quiet2 b6)
          have b6a := b.trans (b6.mono hw)
          have hw6 := b6a.size
          have K2 := log_records H6 (by omega)
          clear K1 H b b6
          go_wp2_with fail
          refine K2.mono ?_
          rintro e w7 ⟨A7, c7, y7, rfl, O7, R7, b7⟩
          have H7 := H6.quiet (below_quiet2 b7)
          have O6a := O6.below b7 (Nat.le_refl _)
          have b7a := b6a.trans (b7.mono hw6)
          have hw7 := b7a.size
          clear K2 H6 b6a O6 b7
          obtain ⟨w8, hmake, O8, g8⟩ := made_own w7 (8192 + m) (by omega)
          have e8 : ((8192 + m : Nat) : Int) = 8192 + (m : Int) := by omega
          rw [e8] at hmake
          obtain ⟨n, hn⟩ : ∃ n, n = 8192 + m := ⟨_, rfl⟩
          rw [← hn] at hmake O8
          have hn8 : 8192 < n := by omega
          have hn9 : n ≤ 8292 := by omega
          have H8 := H7.quiet g8
          have O6b := O6a.grown g8 (by cases hv : (Value.slice A6 (joined S.R).length c6).ownBlock <;> simp)
          obtain ⟨O7b, R7b⟩ := lists_quiet O7 R7 g8
          have b8 := b7a.grown g8 hw7 (by simp)
          have hw8 := b8.size
          have K3 := log_long H8 (A2 := some ⟨w7.heap.size, 0, none⟩) (c2 := n) hn8 (by unfold maxLen; omega)
          have K4 := log_put_long H8 (A2 := some ⟨w7.heap.size, 0, none⟩) (c2 := n) hn8 (by unfold maxLen; omega)
          have HN := Lib.hid hn
          clear hn e8 H7 O6a O7 R7 b7a g8
          go_wp2_with fail
          refine K3.mono ?_
          rintro e w9 ⟨rfl, rfl⟩
          go_wp2_with fail
          refine K4.mono ?_
          rintro e w9 ⟨rfl, rfl⟩
          clear K3 K4
          have gT := quiet_two w8 (.cells #[.int .u8 1] 5) (.cells #[.slice (some ⟨w8.heap.size, 0, none⟩) 1 1, .slice (some ⟨w7.heap.size, 0, none⟩) n n] 32)
          have HT := H8.quiet gT
          have hlr : (List.replicate n 0).length = n := List.length_replicate
          have PS := two_rows (l0 := [1]) (l1 := List.replicate n 0) (v1 := .slice (some ⟨w7.heap.size, 0, none⟩) n n) (c1 := n) (A1 := some ⟨w7.heap.size, 0, none⟩) rfl (by rw [hlr]) ((byte_own w8 1).mono (show w7.heap.size ≤ w8.heap.size by have := (World.ownsRow.lt O8 w7.heap.size rfl).2; omega)) (O8.alloc (.cells #[.int .u8 ((1 : Nat) : Int)] 5)) (by simp [Small]) (by intro x hx; rw [List.eq_of_mem_replicate hx]; omega)
          have hsz : (w8.alloc (.cells #[.int .u8 ((1 : Nat) : Int)] 5)).heap.size = w8.heap.size + 1 := by simp
          rw [hsz] at PS
          have hJ : (joined [[1], List.replicate n 0]).length ≤ 300000 := by rw [joined_total]; simp [total]; omega
          have hnot : ¬ ∀ q ∈ [[1], List.replicate n 0], q.length ≤ 8192 := fun hall => by have := hall (List.replicate n 0) (by simp); rw [hlr] at this; omega
          have K5 := log_check (c2 := 2) HT (hF.more (by omega)) PS (fun h => absurd h hnot) (Nat.le_refl _) (by simp) hJ
          have e5 : checkL S [[1], List.replicate n 0] = (S, 3) := if_neg hnot
          rw [e5] at K5
          dsimp only at K5
          have O6c := own_quiet O6b gT
          obtain ⟨O7c, R7c⟩ := lists_quiet O7b R7b gT
          have bT := b8.grown gT hw8 (by simp)
          clear e5 hnot hJ PS hsz hlr H8 O6b O7b R7b b8 O8
          go_wp2_with fail
          refine K5.mono ?_
          rintro e wA ⟨AA, cA, ALA, cLA, xsA, rfl, HA, TA⟩
          have gA := TA.2 (by decide)
          have O6d := own_quiet O6c gA
          obtain ⟨O7d, R7d⟩ := lists_quiet O7c R7c gA
          have bA := bT.grown gA bT.size (by simp)
          have hwA := bA.size
          clear K5 TA HT O6c O7c R7c bT gA gT hmake
          go_wp2_with fail
          refine (first_any _).mono ?_
          rintro e wB ⟨rfl, bB⟩
          have gB := below_quiet2 bB
          have HB := HA.quiet gB
          have O6e := own_quiet O6d gB
          obtain ⟨O7e, R7e⟩ := lists_quiet O7d R7d gB
          have bB' := bA.trans (bB.mono hwA)
          have hwB := bB'.size
          have K6 := bytes_of HB.disk (by omega)
          have hsm := joined_small HB.few
          clear HA O6d O7d R7d bA bB gB
          go_wp2_with fail
          refine K6.mono ?_
          rintro e wC ⟨AC, cC, rfl, OC, bC⟩
          have gC := below_quiet2 bC
          have HC := HB.quiet gC
          have O6f := own_quiet O6e gC
          obtain ⟨O7f, R7f⟩ := lists_quiet O7e R7e gC
          have bC' := bB'.trans (bC.mono hwB)
          have hwC := bC'.size
          have K7 := bytes_same AC A6 cC c6 _ _ (joined S.R) wC OC.reads O6f.reads hsm
          clear K6 HB O6e O7e R7e bB' bC gC
          go_wp2_with fail
          refine K7.mono ?_
          rintro e wD ⟨rfl, rfl⟩
          have K8 := log_records HC (by omega)
          go_wp2_with fail
          refine K8.mono ?_
          rintro e wD ⟨AD, cD, yD, rfl, OD, RD, bD⟩
          obtain ⟨O7g, R7g⟩ := lists_quiet O7f R7f (below_quiet2 bD)
          have bD' := bC'.trans (bD.mono hwC)
          have K9 := lists_same AD A7 cD c7 _ _ S.R wD (ListsAt.of_own OD RD) (ListsAt.of_own O7g R7g) (fun q hq => (HC.few q hq).1) (by omega)
          go_wp2_with fail
          refine K9.mono ?_
          rintro e wE ⟨rfl, gE⟩
          have bE := bD'.grown gE bD'.size (by simp)
          go_wp2_with fail
          go_ret
          exact ⟨rfl, bE⟩
end Go.Proofs.Ytkhbpaloicefdaa
