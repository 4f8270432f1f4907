/- FrameOwn: the walk. -/
import Derived.Test.YteecjdlegnnbmaaOwn1
import Derived.Deep.RegionHeld3
import Derived.Deep.DrawnRows
import Derived.Laws.OwnMore
import Derived.RegionTactic
namespace Go.Proofs.Yteecjdlegnnbmaa
open Go.RowKit
set_option linter.unusedVariables false
attribute [local go_sem ↓] Go.wp_at_zero Go.wp_at_succ
theorem seven_own (w : World) : Own (w.alloc (.cells #[.int .u8 7] 5)) w.heap.size (.slice (some ⟨w.heap.size, 0, none⟩) 1 1) [7] := by
  have h := World.ownsRow_lit w (base := w.heap.size) (e := 5) (size := 1) #[.int .u8 7] 1 (Nat.le_refl _) (by simp [maxLen]) rfl
  have e : bys [7] = [.int .u8 7] := by simp [bys]
  unfold Own
  rw [e]
  exact h
theorem own_form {base n : Nat} {e : TypeId} {v : Value} {xs : List Value} {w : World} (h : w.ownsRow base e 1 v n xs) : ∃ A c, v = .slice A n c := by
  rcases h.2 with ⟨rfl, hx⟩ | ⟨g, cp, cur, rfl, _⟩
  · have hn : n = 0 := by have h1 := h.1; simp [hx] at h1; omega
    subst hn
    exact ⟨none, 0, rfl⟩
  · exact ⟨_, _, rfl⟩
theorem add_zero_ (a : Addr) : a.add 0 = a := by unfold Addr.add; simp
theorem Own.snoc_rec {w w' : World} {W : Nat} {P : List (List Nat)} {l : List Nat} {v : Value} (o : w'.ownsRow W 5 1 v ((joined P).length + (recd l).length) (bys (joined P) ++ bys (recd l))) : Own w' W v (joined (P ++ [l])) := by
  unfold Own
  rw [joined_snoc, List.length_append]
  have e : bys (joined P ++ recd l) = bys (joined P) ++ bys (recd l) := by simp [bys]
  rw [e]
  exact o
set_option maxRecDepth 100000 in
set_option maxHeartbeats 16000000 in
theorem own_law (A : Option Addr) (c B : Nat) (L : List (List Nat)) (w : World) (ha : RowsAt w B A L) (hB : B ≤ w.heap.size) (hl : L.length ≤ maxLen) :
    Calls Try.prog 9 #[.slice A L.length c] w fun e w' => e = .returned (.bool true) ∧ Below w.heap.size w w' := by
  have hl' := hl
  unfold maxLen at hl'
  obtain ⟨i5, hi5, hz50, hz51, hz52⟩ := info_parts byte_row
  go_enter Try.func9, Try.ntmps9
  go_wp2_with fail
  refine (first_any _).mono ?_
  rintro e w1 ⟨rfl, b1⟩
  have hF := few_any A c B L w1 (ha.below (b1.mono hB)) hl
  go_wp2_with fail
  refine hF.mono ?_
  clear hF
  rintro e w2 ⟨t, rfl, rfl, ht⟩
  cases t with
  | false =>
    clear ht
    go_wp2_with fail
    refine (first_any _).mono ?_
    rintro e w3 ⟨rfl, b3⟩
    replace b3 := b1.trans (b3.mono b1.size)
    clear b1
    go_wp2_with fail
    go_ret
    exact ⟨rfl, b3⟩
  | true =>
    obtain ⟨hl2, hT⟩ := ht rfl
    clear ht
    go_wp2_with fail
    go_loopw [3, 4] (fun bv kv wr => ∃ j : Nat, j ≤ L.length ∧ kv = .int .i64 j ∧ Own wr w.heap.size bv (joined (kept (L.take j))) ∧ Below w.heap.size w wr) (fun _ kv _ => L.length - (intOf kv).toNat)
    case atStart => exact ⟨0, Nat.zero_le _, rfl, World.ownsRow_nil _ _ _ _, b1⟩
    case round =>
      clear b1
      obtain ⟨j, hj, rfl, O, b⟩ := hrel
      by_cases hlt : j < L.length
      · obtain ⟨ad, A1, c1, rfl, hcell0, R10, rm1, hbl⟩ := ha.get hlt
        have hcell := ((b.mono hB).cell hbl).trans hcell0
        have R1 := R10.below (b.mono hB)
        clear hcell0
        have hsm := ha.small _ (List.getElem_mem hlt)
        have hj0 : (0 : Int) ≤ (j : Int) := by omega
        have hj1 : (j : Int) < (L.length : Int) := by omega
        have hw := b.size
        have hTj := total_le (L := L) (j + 1)
        rw [total_snoc hlt] at hTj
        by_cases hle : L[j].length ≤ 8192
        · have K := put_yes A1 c1 B L[j] wr R1 (Nat.le_trans hB b.size) hsm hle
          have hx := Lib.hid (kept_yes hlt hle)
          have hrl : (recd L[j]).length = L[j].length + 6 := recd_length _
          have hrl1 : (recd L[j]).length ≤ 8198 := by omega
          clear hrl
          go_wp2_with fail
          refine K.mono ?_
          clear K
          rintro e w5 ⟨A5, c5, rfl, O5, b5⟩
          have O2 := O.below b5 (Nat.le_refl _)
          have b2 := b.trans (b5.mono hw)
          clear O hcell R1
          have hPl := joined_le (L.take j)
          have hTk := total_le (L := L) j
          rw [List.length_take] at hPl
          generalize hP : kept (L.take j) = P at *
          have h63 : (joined P).length + (recd L[j]).length ≤ maxLen := by unfold maxLen; omega
          have h47 : ((joined P).length + (recd L[j]).length) * 1 ≤ 140737488355328 := by omega
          go_wp2_with (at_builtin; refine wpList_append_any _ rfl (.tmp 34) (.tmp 35) 22 rfl w.heap.size 5 i5 _ 1 1 Try.underlying22 hi5 hz50 hz51 hz52 rfl (by omega) _ _ _ rfl O2 _ _ _ _ _ rfl O5.reads (bys_one _) h63 h47 b2.size ?_; intro v4 w4 o4 g4 at4)
          have O4 := Own.snoc_rec (w := w) o4
          have b4 := b2.grown g4 b2.size (fun k hk => (World.ownsRow.lt O2 k hk).1)
          clear O2 O5 b2 o4 g4 b5
          go_wp2_with fail
          go_roundw
          case rel => exact ⟨j + 1, by omega, by go_num, by rw [hx.out]; exact O4, b4⟩
          case measure => simp [intOf]; omega
        · have K := put_no A1 c1 L[j].length wr (by omega) (by unfold maxLen; omega)
          have hx := Lib.hid (kept_no hlt (by omega))
          go_wp2_with fail
          refine K.mono ?_
          clear K
          rintro e w5 ⟨rfl, rfl⟩
          have hPl := joined_le (L.take j)
          have hTk := total_le (L := L) j
          rw [List.length_take] at hPl
          generalize hP : kept (L.take j) = P at *
          have h63 : (joined P).length + 0 ≤ maxLen := by unfold maxLen; omega
          have h47 : ((joined P).length + 0) * 1 ≤ 140737488355328 := by omega
          go_wp2_with (at_builtin; refine wpList_append_any _ rfl (.tmp 34) (.tmp 35) 22 rfl w.heap.size 5 i5 _ 1 1 Try.underlying22 hi5 hz50 hz51 hz52 rfl (by omega) _ _ _ rfl O 0 none 0 0 [] rfl Reads.none_ (by simp) h63 h47 b.size ?_; intro v4 w4 o4 g4 at4)
          have O4 : Own w4 w.heap.size v4 (joined P) := by simpa [Own] using o4
          have b4 := b.grown g4 b.size (fun k hk => (World.ownsRow.lt O k hk).1)
          clear O b o4 g4
          go_wp2_with fail
          go_roundw
          case rel => exact ⟨j + 1, by omega, by go_num, by rw [hx.out]; exact O4, b4⟩
          case measure => simp [intOf]; omega
      · obtain rfl : j = L.length := by omega
        rw [List.take_length] at O
        have hKm : ∀ p ∈ kept L, Small p ∧ p.length ≤ 8192 := fun p hp => ⟨ha.small p (kept_mem p hp).1, (kept_mem p hp).2⟩
        have hKl := kept_le L
        have hJl := joined_le L
        have hFr := front_any A c B L
        generalize kept L = P at O hKm hKl hJl hFr
        have hK8 : ∀ p ∈ P, p.length ≤ 8192 := fun p hp => (hKm p hp).2
        have hKs : ∀ p ∈ P, Small p := fun p hp => (hKm p hp).1
        have hSm : Small (joined P) := joined_small hKm
        have hJ2 : (joined P).length ≤ 21800 := by omega
        obtain ⟨A5, c5, rfl⟩ := O.form
        have hCo := copy_any A5 c5 _ (joined P) wr O.reads (by omega)
        have hw := b.size
        go_wp2_with fail
        refine hCo.mono ?_
        rintro e w5 ⟨A6, c6, rfl, O6, b6⟩
        have O5 := O.below b6 (Nat.le_refl _)
        replace b6 := b.trans (b6.mono hw)
        have hw6 := b6.size
        clear b O hCo
        have hSc := scan_apart A5 c5 _ (joined P) w5 O5.reads (Nat.le_refl _) hSm O5.room (by omega)
        rw [scand_whole hK8] at hSc
        dsimp only at hSc
        go_wp2_with fail
        refine hSc.mono ?_
        rintro e w7 ⟨A8, c8, ys, rfl, O8, R8, AP8, b7⟩
        have S0 := Spoil.start O8 R8 hKs AP8
        clear hSc O8 R8 AP8
        have hP3 : P.length ≤ 300 := by omega
        go_wp2_with fail
        go_loopw [10] (fun kv wr => ∃ (i : Nat) (xs : List Value), i ≤ P.length ∧ kv = .int .i64 i ∧ Spoil wr w5.heap.size i A8 c8 P xs ∧ Below w5.heap.size w5 wr) (fun kv _ => P.length - (intOf kv).toNat)
        case atStart => exact ⟨0, _, Nat.zero_le _, rfl, S0, b7⟩
        case round =>
          clear S0 b7
          obtain ⟨i, xs, hi, rfl, S, b⟩ := hrel
          have hwb := b.size
          by_cases hlt : i < P.length
          · have i0 : (0 : Int) ≤ (i : Int) := by omega
            have i1 : (i : Int) < (P.length : Int) := by omega
            obtain ⟨A1, c1, l, hx, hll, hls, O1⟩ := S.rows i (Nat.le_refl _) hlt
            have hp8 := hK8 _ (List.getElem_mem hlt)
            go_wp2_with fail
            go_loopw [11] (fun kv wr => ∃ (k : Nat) (l : List Nat), k ≤ P[i].length ∧ kv = .int .i64 k ∧ l.length = P[i].length ∧ Small l ∧ Spoil wr w5.heap.size i A8 c8 P xs ∧ Own wr w5.heap.size (.slice A1 P[i].length c1) l ∧ Below w5.heap.size w5 wr) (fun kv _ => P[i].length - (intOf kv).toNat)
            case atStart => exact ⟨0, l, Nat.zero_le _, rfl, hll, hls, S, O1, b⟩
            case round =>
              clear S O1 b hll hls hwb l
              obtain ⟨k, l, hk, rfl, hll, hls, S, O1, b⟩ := hrel
              have hwb := b.size
              obtain ⟨g8, cp8, e8, hg8, _⟩ := S.m.form (by omega)
              injection e8 with e81 _ e83
              subst e81 e83
              have hcell : wr.cell? ⟨g8, i, none⟩ = some (.slice A1 P[i].length c1) := by rw [World.ownsRow.cellAt S.m i (by omega)]; exact hx
              by_cases hkl : k < P[i].length
              · have k0 : (0 : Int) ≤ (k : Int) := by omega
                have k1 : (k : Int) < (P[i].length : Int) := by omega
                have O1' := O1
                rw [← hll] at O1'
                obtain ⟨g, cp, hv, hgB⟩ := O1'.named (by omega)
                injection hv with hv1 _ hv2
                subst hv1 hv2
                have pd := O1'.at_ (show k < l.length by omega)
                have fd := O1'.froz k
                obtain ⟨y, hy, hy2⟩ : ∃ y : Nat, ((l[k] : Int) + 1) % 256 = (y : Int) ∧ y < 256 := ⟨(l[k] + 1) % 256, by omega, by omega⟩
                have O3 := O1'.set_ (show k < l.length by omega) y
                rw [List.length_set, hll] at O3
                have hls3 : Small (l.set k y) := hls.set hy2
                have S3 := S.turn hlt hx O1 (grown_set wr ⟨g, k, none⟩ (.int .u8 (y : Int))) (by rw [List.length_set, hll]) hls3 O3
                have b3 := b.setCell (p := ⟨g, k, none⟩) hgB (.int .u8 (y : Int))
                go_wp2_with fail
                exact ⟨⟨k + 1, _, by omega, by go_num, by rw [List.length_set, hll], hls3, S3, O3, b3⟩, by simp [intOf]; omega⟩
              · obtain rfl : k = P[i].length := by omega
                have O1' := O1
                rw [← hll] at O1'
                have OA : (wr.alloc (.cells #[.int .u8 7] 5)).ownsRow w5.heap.size 5 1 (.slice A1 P[i].length c1) P[i].length (bys l) := by
                  have := World.ownsRow.alloc O1' (.cells #[.int .u8 7] 5)
                  rwa [hll] at this
                have h63 : P[i].length + 1 ≤ maxLen := by unfold maxLen; omega
                have h47 : (P[i].length + 1) * 1 ≤ 140737488355328 := by omega
                have bA := b.alloc hwb (.cells #[.int .u8 7] 5)
                have SA := S.alloc (.cells #[.int .u8 7] 5)
                go_wp2_with (at_builtin; refine wpList_append_any _ rfl (.tmp 73) (.tmp 74) 22 rfl w5.heap.size 5 i5 _ 1 1 Try.underlying22 hi5 hz50 hz51 hz52 rfl (by omega) _ _ _ rfl OA _ _ _ _ _ rfl (seven_own wr).reads (bys_one [7]) h63 h47 bA.size ?_; intro v4 w4 o4 g4 at4; obtain ⟨A4, c4, rfl⟩ := own_form o4; have S4 := SA.keep hlt hx (O1.alloc _) g4; have b4 := bA.grown g4 bA.size (fun k hk => (World.ownsRow.lt OA k hk).1); have hc4 : w4.cell? ⟨g8, i, none⟩ = some (.slice A1 P[i].length c1) := (by rw [World.ownsRow.cellAt S4.m i (by omega)]; exact hx); have hf4 := World.ownsRow.frozenAt S4.m i; obtain ⟨g9, e9, hg9, S5⟩ := S4.put hlt (.slice A4 (P[i].length + 1) c4); obtain rfl : g8 = g9 := (by injection e9 with e9; injection e9); have b5 := b4.setCell (p := ⟨g8, i, none⟩) hg8 (.slice A4 (P[i].length + 1) c4))
                go_roundw
                case rel => exact ⟨i + 1, _, by omega, by go_num, S5, b5⟩
                case measure => simp [intOf]; omega
          · obtain rfl : i = P.length := by omega
            have O5b := O5.below b (Nat.le_refl _)
            have O6b := O6.below b (Nat.le_refl _)
            have b8 := b6.trans (b.mono hw6)
            have hw8 := b8.size
            have hSc := scan_any A5 c5 _ (joined P) wr O5b.reads (Nat.le_refl _) hSm O5b.room (by omega)
            rw [scand_whole hK8] at hSc
            dsimp only at hSc
            clear O5 O6 b6 b S
            go_wp2_with fail
            refine hSc.mono ?_
            rintro e w9 ⟨A9, c9, zs, rfl, O9, R9, b9⟩
            have O5c := O5b.below b9 (Nat.le_refl _)
            have O6c := O6b.below b9 (Nat.le_refl _)
            have bA := b8.trans (b9.mono hw8)
            have LA : ListsAt w9 w9.heap.size A9 P := ListsAt.of_own O9 R9
            have LQ := Lib.hid (fun (w' : World) (g : w9.grownBy w' none) => LA.quiet g)
            have hwA := bA.size
            clear O5b O6b b8 hSc O9 R9 b9 hw8
            by_cases h0 : P.length = 0
            · have bA' := bA.grown (drew_one w9) bA.size (by simp)
              have O5c' := World.ownsRow.drew O5c
              have O6c' := World.ownsRow.drew O6c
              have hwA' := bA'.size
              have e0 : ((P.length : Int) == 0) = true := by rw [beq_iff_eq]; omega
              clear LA LQ hKm hK8 hKs hKl hJl hFr h0
              go_wp2_with fail
              refine wp_region_held_drew (S := fun _ => True) (by kernel_rfl) trivial (fun _ => ?_)
              refine wpAnyH_ready (rs := [0]) (by kernel_rfl) (by simp) ?_
              refine AllReadyH.cons (o := { dst := some 82, op := Op.call { callee := Callee.value (Operand.func 10), args := #[], argTypes := #[] }, type := 4, pos := "extra.go:51", after := #[], guard := none }) rfl (fun K hK => ?_) AllReadyH.nil
              go_simp
              go_at_call 10
              refine (first_any _).mono ?_
              rintro e wB ⟨rfl, bB⟩
              have O5d := Own.below O5c' bB (Nat.le_refl _)
              have O6d := Own.below O6c' bB (Nat.le_refl _)
              have hb14 := bytes_same A5 A6 c5 c6 _ _ (joined P) wB (Own.reads O5d) (Own.reads O6d) hSm
              have bC := bA'.trans (bB.mono hwA')
              go_wp2_with fail
              refine hK.out _ _ trivial (fun _ => ?_)
              clear hK K
              try simp only [Act.put, List.setIfInBounds_toArray, List.set_cons_zero, List.set_cons_succ]
              refine wpAnyH_take (i := 1) (oi := { dst := some 83, op := Op.move (Operand.tmp 82), type := 4, pos := "extra.go:51", after := #[{ on := 0, ground := Ground.data }, { on := 0, ground := Ground.chain }], guard := none }) (v := ?_) rfl (by kernel_rfl) (by kernel_rfl) (by kernel_rfl) (fun _ _ _ h => h) (Or.inl ⟨by rfl, ?_⟩) (by trivial) ?_
              rotate_left
              (focus (intro w hSw; go_simp <;> with_reducible rfl))
              try simp only [Act.put, List.setIfInBounds_toArray, List.set_cons_zero, List.set_cons_succ]
              refine wpAnyH_take (i := 2) (oi := { dst := some 84, op := Op.move (Operand.tmp 3), type := 22, pos := "extra.go:51", after := #[{ on := 1, ground := Ground.guard }], guard := some (1, true) }) (v := ?_) rfl (by kernel_rfl) (by kernel_rfl) (by kernel_rfl) (fun _ _ _ h => h) (Or.inl ⟨by rfl, ?_⟩) (by trivial) ?_
              rotate_left
              (focus (intro w hSw; go_simp <;> with_reducible rfl))
              try simp only [Act.put, List.setIfInBounds_toArray, List.set_cons_zero, List.set_cons_succ]
              refine wpAnyH_take (i := 3) (oi := { dst := some 85, op := Op.move (Operand.tmp 7), type := 22, pos := "extra.go:51", after := #[{ on := 1, ground := Ground.guard }], guard := some (1, true) }) (v := ?_) rfl (by kernel_rfl) (by kernel_rfl) (by kernel_rfl) (fun _ _ _ h => h) (Or.inl ⟨by rfl, ?_⟩) (by trivial) ?_
              rotate_left
              (focus (intro w hSw; go_simp <;> with_reducible rfl))
              try simp only [Act.put, List.setIfInBounds_toArray, List.set_cons_zero, List.set_cons_succ]
              refine wpAnyH_ready (rs := [4]) (by kernel_rfl) (by simp) ?_
              refine AllReadyH.cons (o := { dst := some 86, op := Op.call { callee := Callee.value (Operand.func 14), args := #[Operand.tmp 84, Operand.tmp 85], argTypes := #[22, 22] }, type := 4, pos := "extra.go:51", after := #[{ on := 2, ground := Ground.data }, { on := 3, ground := Ground.data }, { on := 1, ground := Ground.chain }, { on := 1, ground := Ground.guard }], guard := some (1, true) }) rfl (fun K hK => ?_) AllReadyH.nil
              go_simp
              go_at_call 14
              refine hb14.mono ?_
              rintro e wC ⟨rfl, rfl⟩
              go_wp2_with fail
              refine hK.out _ _ trivial (fun _ => ?_)
              clear hK K
              try simp only [Act.put, List.setIfInBounds_toArray, List.set_cons_zero, List.set_cons_succ]
              refine wpAnyH_take (i := 5) (oi := { dst := some 87, op := Op.pick (Operand.tmp 83) (Operand.tmp 86) (Operand.const (Value.bool false)), type := 4, pos := "extra.go:51", after := #[{ on := 1, ground := Ground.data }, { on := 4, ground := Ground.data }], guard := none }) (v := ?_) rfl (by kernel_rfl) (by kernel_rfl) (by kernel_rfl) (fun _ _ _ h => h) (Or.inl ⟨by rfl, ?_⟩) (by trivial) ?_
              rotate_left
              (focus (intro w hSw; go_simp <;> with_reducible rfl))
              try simp only [Act.put, List.setIfInBounds_toArray, List.set_cons_zero, List.set_cons_succ]
              refine wpAnyH_take (i := 6) (oi := { dst := some 88, op := Op.move (Operand.tmp 87), type := 4, pos := "extra.go:51", after := #[{ on := 5, ground := Ground.data }, { on := 4, ground := Ground.chain }], guard := none }) (v := ?_) rfl (by kernel_rfl) (by kernel_rfl) (by kernel_rfl) (fun _ _ _ h => h) (Or.inl ⟨by rfl, ?_⟩) (by trivial) ?_
              rotate_left
              (focus (intro w hSw; go_simp <;> with_reducible rfl))
              try simp only [Act.put, List.setIfInBounds_toArray, List.set_cons_zero, List.set_cons_succ]
              refine wpAnyH_take (i := 7) (oi := { dst := some 89, op := Op.move (Operand.tmp 13), type := 3, pos := "extra.go:51", after := #[{ on := 6, ground := Ground.guard }], guard := some (6, true) }) (v := ?_) rfl (by kernel_rfl) (by kernel_rfl) (by kernel_rfl) (fun _ _ _ h => h) (Or.inl ⟨by rfl, ?_⟩) (by trivial) ?_
              rotate_left
              (focus (intro w hSw; go_simp <;> with_reducible rfl))
              try simp only [Act.put, List.setIfInBounds_toArray, List.set_cons_zero, List.set_cons_succ]
              refine wpAnyH_take (i := 8) (oi := { dst := some 90, op := Op.move (Operand.tmp 3), type := 22, pos := "extra.go:51", after := #[{ on := 6, ground := Ground.guard }], guard := some (6, true) }) (v := ?_) rfl (by kernel_rfl) (by kernel_rfl) (by kernel_rfl) (fun _ _ _ h => h) (Or.inl ⟨by rfl, ?_⟩) (by trivial) ?_
              rotate_left
              (focus (intro w hSw; go_simp <;> with_reducible rfl))
              try simp only [Act.put, List.setIfInBounds_toArray, List.set_cons_zero, List.set_cons_succ]
              refine wpAnyH_take (i := 9) (oi := { dst := some 91, op := Op.call { callee := Callee.builtin Builtin.len, args := #[Operand.tmp 90], argTypes := #[22] }, type := 3, pos := "extra.go:51", after := #[{ on := 8, ground := Ground.data }, { on := 6, ground := Ground.guard }], guard := some (6, true) }) (v := ?_) rfl (by kernel_rfl) (by kernel_rfl) (by kernel_rfl) (fun _ _ _ h => h) (Or.inl ⟨by rfl, ?_⟩) (by trivial) ?_
              rotate_left
              (focus (intro w hSw; go_simp <;> with_reducible rfl))
              try simp only [Act.put, List.setIfInBounds_toArray, List.set_cons_zero, List.set_cons_succ]
              refine wpAnyH_take (i := 10) (oi := { dst := some 92, op := Op.binOp BinOp.eql 3 (Operand.tmp 89) (Operand.tmp 91) 3, type := 4, pos := "extra.go:51", after := #[{ on := 7, ground := Ground.data }, { on := 9, ground := Ground.data }, { on := 6, ground := Ground.guard }], guard := some (6, true) }) (v := ?_) rfl (by kernel_rfl) (by kernel_rfl) (by kernel_rfl) (fun _ _ _ h => h) (Or.inl ⟨by rfl, ?_⟩) (by trivial) ?_
              rotate_left
              (focus (intro w hSw; go_simp <;> with_reducible rfl))
              try simp only [Act.put, List.setIfInBounds_toArray, List.set_cons_zero, List.set_cons_succ]
              refine wpAnyH_take (i := 11) (oi := { dst := some 93, op := Op.pick (Operand.tmp 88) (Operand.tmp 92) (Operand.const (Value.bool false)), type := 4, pos := "extra.go:51", after := #[{ on := 6, ground := Ground.data }, { on := 10, ground := Ground.data }], guard := none }) (v := ?_) rfl (by kernel_rfl) (by kernel_rfl) (by kernel_rfl) (fun _ _ _ h => h) (Or.inl ⟨by rfl, ?_⟩) (by trivial) ?_
              rotate_left
              (focus (intro w hSw; go_simp <;> with_reducible rfl))
              try simp only [Act.put, List.setIfInBounds_toArray, List.set_cons_zero, List.set_cons_succ]
              refine wpAnyH_take (i := 12) (oi := { dst := some 94, op := Op.move (Operand.tmp 93), type := 4, pos := "extra.go:51", after := #[{ on := 11, ground := Ground.data }, { on := 6, ground := Ground.chain }], guard := none }) (v := ?_) rfl (by kernel_rfl) (by kernel_rfl) (by kernel_rfl) (fun _ _ _ h => h) (Or.inl ⟨by rfl, ?_⟩) (by trivial) ?_
              rotate_left
              (focus (intro w hSw; go_simp <;> with_reducible rfl))
              try simp only [Act.put, List.setIfInBounds_toArray, List.set_cons_zero, List.set_cons_succ]
              refine wpAnyH_take (i := 13) (oi := { dst := some 95, op := Op.move (Operand.tmp 12), type := 36, pos := "extra.go:51", after := #[{ on := 12, ground := Ground.guard }], guard := some (12, true) }) (v := ?_) rfl (by kernel_rfl) (by kernel_rfl) (by kernel_rfl) (fun _ _ _ h => h) (Or.inl ⟨by rfl, ?_⟩) (by trivial) ?_
              rotate_left
              (focus (intro w hSw; go_simp <;> with_reducible rfl))
              try simp only [Act.put, List.setIfInBounds_toArray, List.set_cons_zero, List.set_cons_succ]
              refine wpAnyH_take (i := 14) (oi := { dst := some 96, op := Op.call { callee := Callee.builtin Builtin.len, args := #[Operand.tmp 95], argTypes := #[36] }, type := 3, pos := "extra.go:51", after := #[{ on := 13, ground := Ground.data }, { on := 12, ground := Ground.guard }], guard := some (12, true) }) (v := ?_) rfl (by kernel_rfl) (by kernel_rfl) (by kernel_rfl) (fun _ _ _ h => h) (Or.inl ⟨by rfl, ?_⟩) (by trivial) ?_
              rotate_left
              (focus (intro w hSw; go_simp <;> with_reducible rfl))
              try simp only [Act.put, List.setIfInBounds_toArray, List.set_cons_zero, List.set_cons_succ]
              refine wpAnyH_take (i := 15) (oi := { dst := some 97, op := Op.move (Operand.tmp 8), type := 36, pos := "extra.go:51", after := #[{ on := 12, ground := Ground.guard }], guard := some (12, true) }) (v := ?_) rfl (by kernel_rfl) (by kernel_rfl) (by kernel_rfl) (fun _ _ _ h => h) (Or.inl ⟨by rfl, ?_⟩) (by trivial) ?_
              rotate_left
              (focus (intro w hSw; go_simp <;> with_reducible rfl))
              try simp only [Act.put, List.setIfInBounds_toArray, List.set_cons_zero, List.set_cons_succ]
              refine wpAnyH_take (i := 16) (oi := { dst := some 98, op := Op.call { callee := Callee.builtin Builtin.len, args := #[Operand.tmp 97], argTypes := #[36] }, type := 3, pos := "extra.go:51", after := #[{ on := 15, ground := Ground.data }, { on := 12, ground := Ground.guard }], guard := some (12, true) }) (v := ?_) rfl (by kernel_rfl) (by kernel_rfl) (by kernel_rfl) (fun _ _ _ h => h) (Or.inl ⟨by rfl, ?_⟩) (by trivial) ?_
              rotate_left
              (focus (intro w hSw; go_simp <;> with_reducible rfl))
              try simp only [Act.put, List.setIfInBounds_toArray, List.set_cons_zero, List.set_cons_succ]
              refine wpAnyH_take (i := 17) (oi := { dst := some 99, op := Op.binOp BinOp.eql 3 (Operand.tmp 96) (Operand.tmp 98) 3, type := 4, pos := "extra.go:51", after := #[{ on := 14, ground := Ground.data }, { on := 16, ground := Ground.data }, { on := 12, ground := Ground.guard }], guard := some (12, true) }) (v := ?_) rfl (by kernel_rfl) (by kernel_rfl) (by kernel_rfl) (fun _ _ _ h => h) (Or.inl ⟨by rfl, ?_⟩) (by trivial) ?_
              rotate_left
              (focus (intro w hSw; go_simp <;> with_reducible rfl))
              try simp only [Act.put, List.setIfInBounds_toArray, List.set_cons_zero, List.set_cons_succ]
              refine wpAnyH_take (i := 18) (oi := { dst := some 100, op := Op.pick (Operand.tmp 94) (Operand.tmp 99) (Operand.const (Value.bool false)), type := 4, pos := "extra.go:51", after := #[{ on := 12, ground := Ground.data }, { on := 17, ground := Ground.data }], guard := none }) (v := ?_) rfl (by kernel_rfl) (by kernel_rfl) (by kernel_rfl) (fun _ _ _ h => h) (Or.inl ⟨by rfl, ?_⟩) (by trivial) ?_
              rotate_left
              (focus (intro w hSw; go_simp <;> with_reducible rfl))
              try simp only [Act.put, List.setIfInBounds_toArray, List.set_cons_zero, List.set_cons_succ]
              refine wpAnyH_take (i := 19) (oi := { dst := some 101, op := Op.move (Operand.tmp 100), type := 4, pos := "extra.go:51", after := #[{ on := 18, ground := Ground.data }, { on := 12, ground := Ground.chain }], guard := none }) (v := ?_) rfl (by kernel_rfl) (by kernel_rfl) (by kernel_rfl) (fun _ _ _ h => h) (Or.inl ⟨by rfl, ?_⟩) (by trivial) ?_
              rotate_left
              (focus (intro w hSw; go_simp <;> with_reducible rfl))
              try simp only [Act.put, List.setIfInBounds_toArray, List.set_cons_zero, List.set_cons_succ]
              refine wpAnyH_take (i := 20) (oi := { dst := some 102, op := Op.move (Operand.tmp 12), type := 36, pos := "extra.go:51", after := #[{ on := 19, ground := Ground.guard }], guard := some (19, true) }) (v := ?_) rfl (by kernel_rfl) (by kernel_rfl) (by kernel_rfl) (fun _ _ _ h => h) (Or.inl ⟨by rfl, ?_⟩) (by trivial) ?_
              rotate_left
              (focus (intro w hSw; go_simp <;> with_reducible rfl))
              try simp only [Act.put, List.setIfInBounds_toArray, List.set_cons_zero, List.set_cons_succ]
              refine wpAnyH_take (i := 21) (oi := { dst := some 103, op := Op.call { callee := Callee.builtin Builtin.len, args := #[Operand.tmp 102], argTypes := #[36] }, type := 3, pos := "extra.go:51", after := #[{ on := 20, ground := Ground.data }, { on := 19, ground := Ground.guard }], guard := some (19, true) }) (v := ?_) rfl (by kernel_rfl) (by kernel_rfl) (by kernel_rfl) (fun _ _ _ h => h) (Or.inl ⟨by rfl, ?_⟩) (by trivial) ?_
              rotate_left
              (focus (intro w hSw; go_simp <;> with_reducible rfl))
              try simp only [Act.put, List.setIfInBounds_toArray, List.set_cons_zero, List.set_cons_succ]
              refine wpAnyH_take (i := 22) (oi := { dst := some 104, op := Op.binOp BinOp.eql 3 (Operand.tmp 103) (Operand.const (Value.int IntKind.i64 0)) 3, type := 4, pos := "extra.go:51", after := #[{ on := 21, ground := Ground.data }, { on := 19, ground := Ground.guard }], guard := some (19, true) }) (v := ?_) rfl (by kernel_rfl) (by kernel_rfl) (by kernel_rfl) (fun _ _ _ h => h) (Or.inl ⟨by rfl, ?_⟩) (by trivial) ?_
              rotate_left
              (focus (intro w hSw; go_simp <;> with_reducible rfl))
              try simp only [Act.put, List.setIfInBounds_toArray, List.set_cons_zero, List.set_cons_succ]
              refine wpAnyH_take (i := 23) (oi := { dst := some 105, op := Op.move (Operand.tmp 104), type := 4, pos := "extra.go:51", after := #[{ on := 22, ground := Ground.data }, { on := 19, ground := Ground.chain }, { on := 19, ground := Ground.guard }], guard := some (19, true) }) (v := ?_) rfl (by kernel_rfl) (by kernel_rfl) (by kernel_rfl) (fun _ _ _ h => h) (Or.inl ⟨by rfl, ?_⟩) (by trivial) ?_
              rotate_left
              (focus (intro w hSw; go_simp <;> with_reducible rfl))
              try simp only [Act.put, List.setIfInBounds_toArray, List.set_cons_zero, List.set_cons_succ]
              refine wpAnyH_take (i := 24) (oi := { dst := some 106, op := Op.move (Operand.tmp 12), type := 36, pos := "extra.go:51", after := #[{ on := 23, ground := Ground.guard }], guard := some (23, false) }) (v := undef) rfl (by kernel_rfl) (by kernel_rfl) (by kernel_rfl) (fun _ _ _ h => h) (Or.inr ⟨by rfl, rfl⟩) (by trivial) ?_
              try simp only [Act.put, List.setIfInBounds_toArray, List.set_cons_zero, List.set_cons_succ]
              refine wpAnyH_take (i := 25) (oi := { dst := some 107, op := Op.indexAddr 36 (Operand.tmp 106) (Operand.const (Value.int IntKind.i64 0)), type := 0, pos := "extra.go:51", after := #[{ on := 24, ground := Ground.data }, { on := 23, ground := Ground.guard }], guard := some (23, false) }) (v := undef) rfl (by kernel_rfl) (by kernel_rfl) (by kernel_rfl) (fun _ _ _ h => h) (Or.inr ⟨by rfl, rfl⟩) (by trivial) ?_
              try simp only [Act.put, List.setIfInBounds_toArray, List.set_cons_zero, List.set_cons_succ]
              refine wpAnyH_take (i := 26) (oi := { dst := some 108, op := Op.load 22 (Operand.tmp 107), type := 22, pos := "extra.go:51", after := #[{ on := 25, ground := Ground.data }, { on := 23, ground := Ground.guard }], guard := some (23, false) }) (v := undef) rfl (by kernel_rfl) (by kernel_rfl) (by kernel_rfl) (fun _ _ _ h => h) (Or.inr ⟨by rfl, rfl⟩) (by trivial) ?_
              try simp only [Act.put, List.setIfInBounds_toArray, List.set_cons_zero, List.set_cons_succ]
              refine wpAnyH_take (i := 27) (oi := { dst := some 109, op := Op.move (Operand.tmp 0), type := 36, pos := "extra.go:51", after := #[{ on := 23, ground := Ground.guard }], guard := some (23, false) }) (v := undef) rfl (by kernel_rfl) (by kernel_rfl) (by kernel_rfl) (fun _ _ _ h => h) (Or.inr ⟨by rfl, rfl⟩) (by trivial) ?_
              try simp only [Act.put, List.setIfInBounds_toArray, List.set_cons_zero, List.set_cons_succ]
              refine wpAnyH_take (i := 28) (oi := { dst := some 110, op := Op.call { callee := Callee.value (Operand.func 23), args := #[Operand.tmp 109], argTypes := #[36] }, type := 22, pos := "extra.go:51", after := #[{ on := 27, ground := Ground.data }, { on := 23, ground := Ground.chain }, { on := 23, ground := Ground.guard }], guard := some (23, false) }) (v := undef) rfl (by kernel_rfl) (by kernel_rfl) (by kernel_rfl) (fun _ _ _ h => h) (Or.inr ⟨by rfl, rfl⟩) (by trivial) ?_
              try simp only [Act.put, List.setIfInBounds_toArray, List.set_cons_zero, List.set_cons_succ]
              refine wpAnyH_take (i := 29) (oi := { dst := some 111, op := Op.call { callee := Callee.value (Operand.func 14), args := #[Operand.tmp 108, Operand.tmp 110], argTypes := #[22, 22] }, type := 4, pos := "extra.go:51", after := #[{ on := 26, ground := Ground.data }, { on := 28, ground := Ground.data }, { on := 28, ground := Ground.chain }, { on := 23, ground := Ground.guard }], guard := some (23, false) }) (v := undef) rfl (by kernel_rfl) (by kernel_rfl) (by kernel_rfl) (fun _ _ _ h => h) (Or.inr ⟨by rfl, rfl⟩) (by trivial) ?_
              try simp only [Act.put, List.setIfInBounds_toArray, List.set_cons_zero, List.set_cons_succ]
              refine wpAnyH_take (i := 30) (oi := { dst := some 112, op := Op.pick (Operand.tmp 105) (Operand.const (Value.bool true)) (Operand.tmp 111), type := 4, pos := "extra.go:51", after := #[{ on := 23, ground := Ground.data }, { on := 29, ground := Ground.data }, { on := 19, ground := Ground.guard }], guard := some (19, true) }) (v := ?_) rfl (by kernel_rfl) (by kernel_rfl) (by kernel_rfl) (fun _ _ _ h => h) (Or.inl ⟨by rfl, ?_⟩) (by trivial) ?_
              rotate_left
              (focus (intro w hSw; go_simp <;> with_reducible rfl))
              try simp only [Act.put, List.setIfInBounds_toArray, List.set_cons_zero, List.set_cons_succ]
              refine wpAnyH_take (i := 31) (oi := { dst := some 113, op := Op.pick (Operand.tmp 101) (Operand.tmp 112) (Operand.const (Value.bool false)), type := 4, pos := "extra.go:51", after := #[{ on := 19, ground := Ground.data }, { on := 30, ground := Ground.data }], guard := none }) (v := ?_) rfl (by kernel_rfl) (by kernel_rfl) (by kernel_rfl) (fun _ _ _ h => h) (Or.inl ⟨by rfl, ?_⟩) (by trivial) ?_
              rotate_left
              (focus (intro w hSw; go_simp <;> with_reducible rfl))
              try simp only [Act.put, List.setIfInBounds_toArray, List.set_cons_zero, List.set_cons_succ]
              refine wpAnyH_take (i := 32) (oi := { dst := some 2, op := Op.assign (Operand.tmp 113), type := 4, pos := "extra.go:51", after := #[{ on := 31, ground := Ground.data }, { on := 29, ground := Ground.chain }, { on := 0, ground := Ground.phase }, { on := 1, ground := Ground.phase }, { on := 2, ground := Ground.phase }, { on := 3, ground := Ground.phase }, { on := 4, ground := Ground.phase }, { on := 5, ground := Ground.phase }, { on := 6, ground := Ground.phase }, { on := 7, ground := Ground.phase }, { on := 8, ground := Ground.phase }, { on := 9, ground := Ground.phase }, { on := 10, ground := Ground.phase }, { on := 11, ground := Ground.phase }, { on := 12, ground := Ground.phase }, { on := 13, ground := Ground.phase }, { on := 14, ground := Ground.phase }, { on := 15, ground := Ground.phase }, { on := 16, ground := Ground.phase }, { on := 17, ground := Ground.phase }, { on := 18, ground := Ground.phase }, { on := 19, ground := Ground.phase }, { on := 20, ground := Ground.phase }, { on := 21, ground := Ground.phase }, { on := 22, ground := Ground.phase }, { on := 23, ground := Ground.phase }, { on := 24, ground := Ground.phase }, { on := 25, ground := Ground.phase }, { on := 26, ground := Ground.phase }, { on := 27, ground := Ground.phase }, { on := 28, ground := Ground.phase }, { on := 29, ground := Ground.phase }, { on := 30, ground := Ground.phase }, { on := 31, ground := Ground.phase }], guard := none }) (v := ?_) rfl (by kernel_rfl) (by kernel_rfl) (by kernel_rfl) (fun _ _ _ h => h) (Or.inl ⟨by rfl, ?_⟩) (by trivial) ?_
              rotate_left
              (focus (intro w hSw; go_simp <;> with_reducible rfl))
              try simp only [Act.put, List.setIfInBounds_toArray, List.set_cons_zero, List.set_cons_succ]
              refine wpAnyH_done (by kernel_rfl) ?_ _
              go_wp2_with fail
              go_ret
              exact ⟨rfl, bC⟩
            · obtain ⟨ad, A1, c1, rfl, hc0, R1⟩ := LA.get (k := 0) (by omega)
              have hqs := hKs _ (List.getElem_mem (show 0 < P.length by omega))
              have hp : P[0]'(by omega) = P.headD [] := by cases P with | nil => exact absurd rfl h0 | cons p P => rfl
              have hq8 := hK8 _ (List.getElem_mem (show 0 < P.length by omega))
              generalize P[0]'(show 0 < P.length by omega) = q at hc0 R1 hqs hp hq8
              have HP := Lib.hid hp
              clear hp
              have e0 : ((P.length : Int) == 0) = false := by rw [beq_eq_false_iff_ne]; omega
              have hz : (0 : Int) < (P.length : Int) := by omega
              have hz2 : 0 < P.length := by omega
              have hz3 : P ≠ [] := fun e => h0 (by rw [e]; rfl)
              have hz4 : ¬ P = [] := hz3
              have hc0' : w9.drew.cell? ad = some (.slice A1 q.length c1) := by rw [add_zero_] at hc0; exact hc0
              have KC := Lib.hid (fun (w' : World) (g : Below w9.drew.heap.size w9.drew w') => (below_quiet g (Nat.le_refl _)).cell hc0' (by simp))
              have bA' := bA.grown (drew_one w9) bA.size (by simp)
              have O5c' := World.ownsRow.drew O5c
              have O6c' := World.ownsRow.drew O6c
              have R1' : BytesAt w9.drew w9.drew.heap.size A1 q := R1
              have hwA' := bA'.size
              go_wp2_with fail
              go_region_held3 (fun w' => w'.cell? ad = some (.slice A1 q.length c1)) (first | exact KC.out _ (by assumption) | go_keep) (first
                | (go_at_call 10; refine (first_any _).mono ?_; rintro e wB ⟨rfl, bB⟩; have O5d := Own.below O5c' bB (Nat.le_refl _); have O6d := Own.below O6c' bB (Nat.le_refl _); have hb14 := bytes_same A5 A6 c5 c6 _ _ (joined P) wB (Own.reads O5d) (Own.reads O6d) hSm; have R1b := BytesAt.below R1' bB; have bC := bA'.trans (bB.mono hwA'); have hF := hFr wB (ha.below (bC.mono hB)) hl)
                | (go_at_call 23; refine hF.mono ?_; rintro e wD ⟨A3, c3, he, rfl, R3⟩; rw [← HP.out] at he R3; subst he; clear hb14)
                | (go_at_call 14; refine (bytes_same A1 A3 c1 c3 _ _ q _ R1b R3 hqs).mono ?_; rintro e wE ⟨rfl, rfl⟩)
                | (go_at_call 14; refine hb14.mono ?_; rintro e wC ⟨rfl, rfl⟩))
              go_wp2_with fail
              go_ret
              exact ⟨rfl, bC⟩
end Go.Proofs.Yteecjdlegnnbmaa
