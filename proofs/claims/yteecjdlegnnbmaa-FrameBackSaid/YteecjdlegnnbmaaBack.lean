/- FrameBack: the walk. -/
import Derived.Test.YteecjdlegnnbmaaBack1
import Derived.Deep.RegionHeld3
import Derived.Deep.DrawnRows
import Derived.Laws.OwnMore
import Derived.RegionTactic
namespace Go.Proofs.Yteecjdlegnnbmaa
open Go.RowKit
set_option linter.unusedVariables false
attribute [local go_sem ↓] Go.wp_at_zero Go.wp_at_succ
/-- What is gathered: the bytes (of Pb), the rows (of Pi), the ends (of Pe). -/
structure Back (B W : Nat) (w0 w : World) (vb : Value) (Pb : List (List Nat)) (vi : Value) (xs : List Value) (Pi : List (List Nat)) (ve : Value) (Pe : List (List Nat)) : Prop where
  b : w.ownsRow W 5 1 vb (joined Pb).length (bys (joined Pb))
  i : w.ownsRow W 22 1 vi Pi.length xs
  r : RefIn w B xs Pi
  e : w.ownsRow W 3 1 ve Pe.length (endsV Pe)
  bel : Below W w0 w
  lo : W ≤ w.heap.size
  BW : B ≤ W
section
variable {B W : Nat} {w0 w w' : World} {vb vi ve v : Value} {Pb Pi Pe : List (List Nat)} {xs ys : List Value} {l : List Nat}
theorem Back.of (h : Back B W w0 w vb Pb vi xs Pi ve Pe) (g : w.grownBy w' none) : Back B W w0 w' vb Pb vi xs Pi ve Pe := by
  have hb : Below W w0 w' := h.bel.grown g h.lo (by simp)
  have hb2 : Below B w w' := ⟨g.os, g.tape, g.output, g.size, fun i hi => g.block i (by have := h.lo; have := h.BW; omega) (by simp)⟩
  exact ⟨World.ownsRow.kept h.b g (by cases hv : vb.ownBlock <;> simp), World.ownsRow.kept h.i g (by cases hv : vi.ownBlock <;> simp), h.r.keep hb2, World.ownsRow.kept h.e g (by cases hv : ve.ownBlock <;> simp), hb, Nat.le_trans h.lo g.size, h.BW⟩
theorem Back.size (h : Back B W w0 w vb Pb vi xs Pi ve Pe) (g : Below w.heap.size w w') : Back B W w0 w' vb Pb vi xs Pi ve Pe := h.of (below_quiet g (Nat.le_refl _))
theorem Back.far {row : Option Nat} (h : Back B W w0 w vb Pb vi xs Pi ve Pe) (g : w.grownBy w' row) (hr : ∀ k, row = some k → W ≤ k) : RefIn w' B xs Pi ∧ Below W w0 w' ∧ W ≤ w'.heap.size := by
  have hb2 : Below B w w' := ⟨g.os, g.tape, g.output, g.size, fun i hi => g.block i (by have := h.lo; have := h.BW; omega) (fun e => by have := hr i e.symm; have := h.BW; omega)⟩
  exact ⟨h.r.keep hb2, h.bel.grown g h.lo hr, Nat.le_trans h.lo g.size⟩
theorem Back.bytes (h : Back B W w0 w vb Pb vi xs Pi ve Pe) {P : List (List Nat)} (o : w'.ownsRow W 5 1 v (joined P).length (bys (joined P))) (g : w.grownBy w' vb.ownBlock) : Back B W w0 w' v P vi xs Pi ve Pe := by
  obtain ⟨h1, h2, h3⟩ := h.far g (fun k hk => (World.ownsRow.lt h.b k hk).1)
  exact ⟨o, World.ownsRow.kept h.i g (own_apart h.i h.b (by decide)), h1, World.ownsRow.kept h.e g (own_apart h.e h.b (by decide)), h2, h3, h.BW⟩
theorem Back.rows (h : Back B W w0 w vb Pb vi xs Pi ve Pe) {P : List (List Nat)} {zs : List Value} (o : w'.ownsRow W 22 1 v P.length zs) (r : RefIn w B zs P) (g : w.grownBy w' vi.ownBlock) : Back B W w0 w' vb Pb v zs P ve Pe := by
  obtain ⟨h1, h2, h3⟩ := h.far g (fun k hk => (World.ownsRow.lt h.i k hk).1)
  have hb2 : Below B w w' := ⟨g.os, g.tape, g.output, g.size, fun i hi => g.block i (by have := h.lo; have := h.BW; omega) (fun e => by have := (World.ownsRow.lt h.i i e.symm).1; have := h.BW; omega)⟩
  exact ⟨World.ownsRow.kept h.b g (own_apart h.b h.i (by decide)), o, r.keep hb2, World.ownsRow.kept h.e g (own_apart h.e h.i (by decide)), h2, h3, h.BW⟩
theorem Back.ends (h : Back B W w0 w vb Pb vi xs Pi ve Pe) {P : List (List Nat)} (o : w'.ownsRow W 3 1 v P.length (endsV P)) (g : w.grownBy w' ve.ownBlock) : Back B W w0 w' vb Pb vi xs Pi v P := by
  obtain ⟨h1, h2, h3⟩ := h.far g (fun k hk => (World.ownsRow.lt h.e k hk).1)
  exact ⟨World.ownsRow.kept h.b g (own_apart h.b h.e (by decide)), World.ownsRow.kept h.i g (own_apart h.i h.e (by decide)), h1, o, h2, h3, h.BW⟩
end
theorem alloc_grown (w : World) (o : Obj) : w.grownBy (w.alloc o) none := ⟨rfl, rfl, rfl, by simp, fun k hk _ => Below.heap_alloc w o k hk⟩
theorem Back.putb {B W : Nat} {w0 w w' : World} {vb vi ve v : Value} {Pb Pi Pe : List (List Nat)} {xs : List Value} {l : List Nat} (h : Back B W w0 w vb Pb vi xs Pi ve Pe) (o : w'.ownsRow W 5 1 v ((joined Pb).length + (recd l).length) (bys (joined Pb) ++ bys (recd l))) (g : w.grownBy w' vb.ownBlock) : Back B W w0 w' v (Pb ++ [l]) vi xs Pi ve Pe := by
  refine h.bytes ?_ g
  rw [joined_snoc, List.length_append]
  have e : bys (joined Pb ++ recd l) = bys (joined Pb) ++ bys (recd l) := by simp [bys]
  rw [e]
  exact o
theorem Back.puti {B W : Nat} {w0 w w' : World} {vb vi ve v : Value} {Pb Pi Pe : List (List Nat)} {xs : List Value} {l : List Nat} {A : Option Addr} {c : Nat} (h : Back B W w0 w vb Pb vi xs Pi ve Pe) (hl : BytesAt w B A l) (o : w'.ownsRow W 22 1 v (Pi.length + 1) (xs ++ [.slice A l.length c])) (g : w.grownBy w' vi.ownBlock) : Back B W w0 w' vb Pb v (xs ++ [.slice A l.length c]) (Pi ++ [l]) ve Pe :=
  h.rows (by rw [List.length_append, List.length_singleton]; exact o) (h.r.snoc hl) g
theorem Back.pute {B W : Nat} {w0 w w' : World} {vb vi ve v : Value} {Pb Pi Pe : List (List Nat)} {xs : List Value} {l : List Nat} (h : Back B W w0 w vb Pb vi xs Pi ve Pe) (o : w'.ownsRow W 3 1 v (Pe.length + 1) (endsV Pe ++ [.int .i64 ((joined (Pe ++ [l])).length : Int)])) (g : w.grownBy w' ve.ownBlock) : Back B W w0 w' vb Pb vi xs Pi v (Pe ++ [l]) :=
  h.ends (by rw [endsV_snoc, List.length_append, List.length_singleton]; exact o) g
theorem slice_reads (w : World) (v : Value) : Reads (w.alloc (.cells #[v] 22)) (w.heap.size + 1) 1 (some ⟨w.heap.size, 0, none⟩) 1 [v] :=
  ⟨rfl, fun _ => ⟨_, rfl, by simp, cell_of_slice _ _⟩⟩
theorem reads_after {w w' : World} {v : Value} {row : Option Nat} (g : (w.alloc (.cells #[v] 22)).grownBy w' row) (h : ∀ k, row = some k → k < w.heap.size) : Reads w' w'.heap.size 1 (some ⟨w.heap.size, 0, none⟩) 1 [v] :=
  ⟨rfl, fun _ => ⟨_, rfl, by have := g.size; simp at this; show w.heap.size < _; omega, fun j u hu => by
    refine (World.cell?_of_block ?_).trans (cell_of_slice w v j u hu)
    rw [block_of_add]
    exact g.block _ (by simp) (fun e => by have := h _ e.symm; simp at this)⟩⟩
theorem int_reads (w : World) (v : Value) : Reads (w.alloc (.cells #[v] 3)) (w.heap.size + 1) 1 (some ⟨w.heap.size, 0, none⟩) 1 [v] :=
  ⟨rfl, fun _ => ⟨_, rfl, by simp, fun j u hu => by
    have hh := heap_alloc_new w (.cells #[v] 3)
    have hadd : (⟨w.heap.size, 0, none⟩ : Addr).add j = ⟨w.heap.size, j, none⟩ := by unfold Addr.add; split <;> simp_all
    rw [hadd, cell_of_row _ _ j _ 3 (0, 0) hh]
    simpa using hu⟩⟩
theorem row_form {base n : Nat} {e : TypeId} {v : Value} {xs : List Value} {w : World} (h : w.ownsRow base e 1 v n xs) : ∃ A c, v = .slice A n c := by
  rcases h.2 with ⟨rfl, hx⟩ | ⟨g, cp, cur, rfl, _⟩
  · have hn : n = 0 := hx
    subst hn
    exact ⟨none, 0, rfl⟩
  · exact ⟨_, _, rfl⟩
theorem ListsAt.of_ref {w : World} {B W c : Nat} {A : Option Addr} {L : List (List Nat)} {xs : List Value} (h : w.ownsRow W 22 1 (.slice A L.length c) L.length xs) (R : RefIn w B xs L) (hB : B ≤ w.heap.size) : ListsAt w w.heap.size A L := by
  intro hn
  obtain ⟨ad, e, hb, hc⟩ := (Reads.of_own h).2 hn
  refine ⟨ad, e, hb, fun k hk => ?_⟩
  obtain ⟨A', c', e2, O⟩ := R.2 k hk
  exact ⟨A', c', hc k _ e2, Reads.more O hB⟩
theorem ListsAt.take {w : World} {B : Nat} {A : Option Addr} {L : List (List Nat)} (h : ListsAt w B A L) (n : Nat) : ListsAt w B A (L.take n) := by
  intro hn
  rw [List.length_take] at hn
  obtain ⟨ad, e, hb, hc⟩ := h (by omega)
  refine ⟨ad, e, hb, fun k hk => ?_⟩
  rw [List.length_take] at hk
  obtain ⟨A', c', h1, h2⟩ := hc k (by omega)
  rw [List.getElem_take]
  exact ⟨A', c', h1, h2⟩
theorem endAt_le (P : List (List Nat)) (n : Nat) : endAt P n ≤ (joined P).length := by
  have e : joined P = joined (P.take n) ++ joined (P.drop n) := by rw [← joined_append, List.take_append_drop]
  unfold endAt
  rw [e, List.length_append]
  omega
theorem BytesAt.take {w : World} {B : Nat} {A : Option Addr} {l : List Nat} (h : BytesAt w B A l) (k : Nat) (hk : k ≤ l.length) : BytesAt w B A (l.take k) := by
  refine ⟨by rw [bys_length, Nat.mul_one], fun hn => ?_⟩
  rw [List.length_take] at hn
  obtain ⟨ad, e, hb, hc⟩ := h.2 (by omega)
  refine ⟨ad, e, hb, fun j u hu => hc j u ?_⟩
  have e2 : bys (l.take k) = (bys l).take k := by simp [bys, List.map_take]
  rw [e2] at hu
  rw [List.getElem?_take] at hu
  split at hu
  · exact hu
  · cases hu
theorem lists_room {w : World} {base n c : Nat} {A : Option Addr} {xs : List Value} (h : w.ownsRow base 22 1 (.slice A n c) n xs) : ∃ (g : Nat) (cp : Nat), cp = c ∧ n ≤ c := by
  rcases h.2 with ⟨h1, hx⟩ | ⟨g, cp, cur, h1, h2, h3, h4, h5⟩
  · injection h1 with _ e1 e2
    exact ⟨0, c, rfl, by omega⟩
  · injection h1 with _ e1 e2
    exact ⟨g, c, rfl, by omega⟩
theorem slice_one (A : Option Addr) (n c : Nat) : ∀ u ∈ [Value.slice A n c], u.oneCell' = true := fun u hu => by (obtain rfl : u = .slice A n c := by simpa using hu); rfl
theorem ints_row : (Try.prog.info? 3).map (fun i => (i.zero, i.size, i.bytes)) = some (some (.int .i64 0), 1, 8) := by kernel_rfl
set_option maxRecDepth 100000 in
set_option maxHeartbeats 16000000 in
theorem back_law (A : Option Addr) (c B : Nat) (L : List (List Nat)) (cut : Int) (w : World) (ha : RowsAt w B A L) (hB : B ≤ w.heap.size) (hl : L.length ≤ maxLen) (hc1 : -9223372036854775808 ≤ cut) (hc2 : cut ≤ 9223372036854775807) :
    Calls Try.prog 7 #[.slice A L.length c, .int .i64 cut] w fun e w' => e = .returned (.bool true) ∧ Below w.heap.size w w' := by
  have hl' := hl
  unfold maxLen at hl'
  obtain ⟨i5, hi5, hz50, hz51, hz52⟩ := info_parts byte_row
  obtain ⟨i22, hi22, hz220, hz221, hz222⟩ := info_parts list_row
  obtain ⟨i3, hi3, hz30, hz31, hz32⟩ := info_parts ints_row
  go_enter Try.func7, Try.ntmps7
  go_wp2_with fail
  refine (first_any _).mono ?_
  rintro e w1 ⟨rfl, b1⟩
  have hF := few_any A c B L w1 (ha.below (b1.mono hB)) hl
  go_wp2_with fail
  refine hF.mono ?_
  clear hF
  rintro e w2 ⟨t, rfl, rfl, ht⟩
  cases t with
  | false =>
    clear ht
    go_wp2_with fail
    refine (first_any _).mono ?_
    rintro e w3 ⟨rfl, b3⟩
    replace b3 := b1.trans (b3.mono b1.size)
    clear b1
    go_wp2_with fail
    go_ret
    exact ⟨rfl, b3⟩
  | true =>
    obtain ⟨hl2, hT⟩ := ht rfl
    clear ht
    have S0 : Back B w.heap.size w w1 (.slice none 0 0) [] (.slice none 0 0) [] [] (.slice none 0 0) [] := ⟨World.ownsRow_nil _ _ _ _, World.ownsRow_nil _ _ _ _, ⟨rfl, fun k h => absurd h (by simp)⟩, World.ownsRow_nil _ _ _ _, b1, b1.size, hB⟩
    clear b1
    go_wp2_with fail
    go_loopw [5, 6, 7, 8] (fun bv iv ev kv wr => ∃ (j : Nat) (xs : List Value), j ≤ L.length ∧ kv = .int .i64 j ∧ Back B w.heap.size w wr bv (kept (L.take j)) iv xs (kept (L.take j)) ev (kept (L.take j))) (fun _ _ _ kv _ => L.length - (intOf kv).toNat)
    case atStart => exact ⟨0, _, Nat.zero_le _, rfl, S0⟩
    case round =>
      clear S0
      obtain ⟨j, xs, hj, rfl, S⟩ := hrel
      by_cases hlt : j < L.length
      · obtain ⟨ad, A1, c1, rfl, hcell0, R10, rm1, hbl⟩ := ha.get hlt
        have HC := Lib.hid (fun (w' : World) (hb : Below w.heap.size w w') => ((hb.mono hB).cell hbl).trans hcell0)
        have hcell := HC.out _ S.bel
        have R1 := R10.below (S.bel.mono hB)
        clear hcell0
        have hsm := ha.small _ (List.getElem_mem hlt)
        have KA := Lib.hid (fun (w' : World) (hb : Below w.heap.size w w') => (ha.below (hb.mono hB)))
        have hj0 : (0 : Int) ≤ (j : Int) := by omega
        have hj1 : (j : Int) < (L.length : Int) := by omega
        by_cases hle : L[j].length ≤ 8192
        · have K := put_yes A1 c1 B L[j] wr R1 (Nat.le_trans hB S.lo) hsm hle
          have hx := Lib.hid (kept_yes hlt hle)
          have hrl : (recd L[j]).length = L[j].length + 6 := recd_length _
          have e1 : (((recd L[j]).length : Int) != (L[j].length : Int) + 6) = false := by simp; omega
          have e2 : decide ((L[j].length : Int) ≤ 8192) = true := by simp; omega
          have hrl1 : (recd L[j]).length ≤ 8198 := by omega
          have HRL := Lib.hid hrl
          clear hrl
          go_wp2_with fail
          refine K.mono ?_
          clear K
          rintro e w5 ⟨A5, c5, rfl, O5, b5⟩
          have S5 := S.size b5
          have hc5 := HC.out _ S5.bel
          clear S hcell
          go_wp2_with fail
          have hPj := kept_le (L.take j)
          have hPl := joined_le (L.take j)
          have hTj := total_le (L := L) j
          rw [List.length_take] at hPj hPl
          have hR5 := Reads.of_own O5
          generalize hP : kept (L.take j) = P at *
          have S6 := S5.of (drew_one w5)
          have S7 := S6.of (alloc_grown w5.drew (.cells #[.slice A1 L[j].length c1] 22))
          have hX6 : Reads w5.drew w5.heap.size 1 A5 (recd L[j]).length (bys (recd L[j])) := hR5
          have hX7 := hX6.alloc (Nat.le_refl _) (.cells #[.slice A1 L[j].length c1] 22)
          have hvb : ∀ k, u5.ownBlock = some k → k < w5.drew.heap.size := fun k hk => (World.ownsRow.lt S5.b k hk).2
          have hone : ∀ u ∈ bys (recd L[j]), u.oneCell' = true := bys_one _
          have h63 : (joined P).length + (recd L[j]).length ≤ maxLen := by unfold maxLen; omega
          have h47 : ((joined P).length + (recd L[j]).length) * 1 ≤ 140737488355328 := by omega
          have hone2 := slice_one A1 L[j].length c1
          have h63b : P.length + 1 ≤ maxLen := by unfold maxLen; omega
          have h47b : (P.length + 1) * 24 ≤ 140737488355328 := by omega
          have hlo6 := S6.lo
          have hlo7 := S7.lo
          go_region_held3 (fun w' => w'.cell? (ad.add j) = some (.slice A1 L[j].length c1)) (first | exact HC.out _ (Back.bel (by assumption)) | go_keep) (first
            | ((refine step_append_any _ rfl (.tmp 63) (.tmp 64) 22 rfl w.heap.size 5 i5 _ 1 1 Try.underlying22 hi5 hz50 hz51 hz52 rfl (by omega) _ _ _ (by rfl) S6.b _ _ _ _ _ (by rfl) hX6 hone h63 h47 hlo6 ?_; intro v2 w2 o2 g2 at2; have S8 := S6.putb o2 g2; have S9 := S8.of (alloc_grown w2 (.cells #[.slice A1 L[j].length c1] 22)); have nw9 := slice_reads w2 (.slice A1 L[j].length c1); have hlo9 := S9.lo))
            | ((refine step_append_any _ rfl (.tmp 63) (.tmp 64) 22 rfl w.heap.size 5 i5 _ 1 1 Try.underlying22 hi5 hz50 hz51 hz52 rfl (by omega) _ _ _ (by rfl) S7.b _ _ _ _ _ (by rfl) hX7 hone h63 h47 hlo7 ?_; intro v2 w2 o2 g2 at2; have S9 := S7.putb o2 g2; have hlo9 := S9.lo; have nw9 := reads_after (w := w5.drew) (v := .slice A1 L[j].length c1) g2 hvb))
            | ((refine step_append_any _ rfl (.tmp 66) (.tmp 71) 36 rfl w.heap.size 22 i22 _ 1 24 Try.underlying36 hi22 hz220 hz221 hz222 rfl (by omega) _ _ _ (by rfl) S9.i _ _ _ _ _ (by rfl) nw9 hone2 h63b h47b hlo9 ?_; intro v3 w3 o3 g3 at3; have SA := S9.puti (R10.below (S9.bel.mono hB)) o3 g3)))
          all_goals
            obtain ⟨A2, c2, rfl⟩ := row_form SA.b
            have hn1 : (joined (P ++ [L[j]])).length ≤ 10000000 := by rw [joined_snoc, List.length_append]; omega
            have SB := SA.of (alloc_grown w3 (.cells #[.int .i64 ((joined (P ++ [L[j]])).length : Int)] 3))
            have nwB := int_reads w3 (.int .i64 ((joined (P ++ [L[j]])).length : Int))
            have honeB : ∀ u ∈ [Value.int .i64 ((joined (P ++ [L[j]])).length : Int)], u.oneCell' = true := fun u hu => by (obtain rfl : u = .int .i64 ((joined (P ++ [L[j]])).length : Int) := by simpa using hu); rfl
            have h47c : (P.length + 1) * 8 ≤ 140737488355328 := by omega
            go_wp2_with (at_builtin; refine wpList_append_any _ rfl (.tmp 73) (.tmp 76) 42 rfl w.heap.size 3 i3 _ 1 8 Try.underlying42 hi3 hz30 hz31 hz32 rfl (by omega) _ _ _ rfl SB.e _ _ _ _ _ rfl nwB honeB h63b h47c SB.lo ?_; intro v4 w4 o4 g4 at4)
            have SC := SB.pute o4 g4
            go_wp2_with fail
            go_roundw
            case rel => exact ⟨j + 1, _, by omega, by go_num, by rw [hx.out]; exact SC⟩
            case measure => simp [intOf]; omega
        · have hTj := total_le (L := L) (j + 1)
          rw [total_snoc hlt] at hTj
          have K := put_no A1 c1 L[j].length wr (by omega) (by unfold maxLen; omega)
          have hx := Lib.hid (kept_no hlt (by omega))
          have e2 : decide ((L[j].length : Int) ≤ 8192) = false := by simp; omega
          go_wp2_with fail
          refine K.mono ?_
          clear K
          rintro e w5 ⟨rfl, rfl⟩
          go_wp2_with fail
          go_roundw
          case rel => exact ⟨j + 1, _, by omega, by go_num, by rw [hx.out]; exact S⟩
          case measure => simp [intOf]; omega
      · obtain rfl : j = L.length := by omega
        rw [List.take_length] at S
        have hKm : ∀ p ∈ kept L, Small p ∧ p.length ≤ 8192 := fun p hp => ⟨ha.small p (kept_mem p hp).1, (kept_mem p hp).2⟩
        have hKl := kept_le L
        have hJl := joined_le L
        generalize kept L = P at S hKm hKl hJl
        have hK8 : ∀ p ∈ P, p.length ≤ 8192 := fun p hp => (hKm p hp).2
        have hKs : ∀ p ∈ P, Small p := fun p hp => (hKm p hp).1
        have hSm : Small (joined P) := joined_small hKm
        obtain ⟨A5, c5, rfl⟩ := row_form S.b
        obtain ⟨A6, c6, rfl⟩ := row_form S.i
        obtain ⟨A7, c7, rfl⟩ := row_form S.e
        have O5 : Own wr w.heap.size (.slice A5 (joined P).length c5) (joined P) := S.b
        have hSc := scan_any A5 c5 _ (joined P) wr O5.reads (Nat.le_refl _) hSm O5.room (by omega)
        rw [scand_whole hK8] at hSc
        dsimp only at hSc
        have hJ2 : (joined P).length ≤ 21800 := by omega
        go_wp2_with fail
        refine hSc.mono ?_
        rintro e w5 ⟨A8, c8, ys, rfl, O8, R8, b5⟩
        have S5 := S.size b5
        have LA : ListsAt w5 w5.heap.size A8 P := ListsAt.of_own O8 R8
        have LB : ListsAt w5 w5.heap.size A6 P := ListsAt.of_ref S5.i S5.r (Nat.le_trans S5.BW S5.lo)
        have hLi := lists_same A8 A6 c8 c6 _ _ P w5 LA LB hKs (by omega)
        clear S hSc O5
        go_wp2_with fail
        refine hLi.mono ?_
        clear hLi
        rintro e w6 ⟨rfl, g6⟩
        have S6 := S5.of g6
        clear S5 LA LB b5 g6 O8 R8
        rcases (show cut < 0 ∨ (¬ cut < 0 ∧ ((joined P).length : Int) < cut) ∨ (¬ cut < 0 ∧ ¬ ((joined P).length : Int) < cut) by omega) with q1 | ⟨q1, q2⟩ | ⟨q1, q2⟩
        · go_wp2_with fail
          refine (first_any _).mono ?_
          rintro e w7 ⟨rfl, b7⟩
          go_wp2_with fail
          go_ret
          exact ⟨rfl, (S6.size b7).bel⟩
        · go_wp2_with fail
          refine (first_any _).mono ?_
          rintro e w7 ⟨rfl, b7⟩
          go_wp2_with fail
          go_ret
          exact ⟨rfl, (S6.size b7).bel⟩
        · obtain ⟨k, rfl⟩ := Int.eq_ofNat_of_zero_le (show 0 ≤ cut by omega)
          have hk : k ≤ (joined P).length := by omega
          have Pn := Lib.hid (show endAt P 0 ≤ k by simp [endAt, joined])
          go_wp2_with fail
          go_loopw [13, 14] (fun nv ev wr => ∃ n : Nat, n ≤ P.length ∧ nv = .int .i64 n ∧ ev = .int .i64 (endAt P n) ∧ endAt P n ≤ k ∧ Back B w.heap.size w wr (.slice A5 (joined P).length c5) P (.slice A6 P.length c6) xs P (.slice A7 P.length c7) P) (fun nv _ _ => P.length - (intOf nv).toNat)
          case atStart => exact ⟨0, Nat.zero_le _, rfl, rfl, Pn.out, S6⟩
          case round =>
            clear S6 Pn
            obtain ⟨n, hn, rfl, rfl, hle, S⟩ := hrel
            rcases (show (n < P.length ∧ endAt P (n + 1) ≤ k) ∨ (n < P.length ∧ k < endAt P (n + 1)) ∨ P.length = n by omega) with ⟨r1, r2⟩ | ⟨r1, r2⟩ | r1
            · obtain ⟨ad, rfl, hb0, hc0⟩ := (Reads.of_own S.e).2 (by omega)
              have hcell := hc0 n _ (endsV_get r1)
              have hEl := endAt_le P (n + 1)
              have i0 : (0 : Int) ≤ (n : Int) := by omega
              have i1 : (n : Int) < (P.length : Int) := by omega
              have i2 : decide (((endAt P (n + 1) : Nat) : Int) ≤ (k : Int)) = true := by simp; omega
              clear hc0 hb0
              go_wp2_with fail
              go_roundw
              case rel => exact ⟨n + 1, by omega, by go_num, rfl, r2, S⟩
              case measure => simp [intOf]; omega
            · obtain ⟨ad, rfl, hb0, hc0⟩ := (Reads.of_own S.e).2 (by omega)
              have hcell := hc0 n _ (endsV_get r1)
              have hEl := endAt_le P (n + 1)
              have i0 : (0 : Int) ≤ (n : Int) := by omega
              have i1 : (n : Int) < (P.length : Int) := by omega
              have i2 : decide (((endAt P (n + 1) : Nat) : Int) ≤ (k : Int)) = false := by simp; omega
              have hSC := Lib.hid (scand_cut hK8 hn hle (fun _ => r2) hk)
              clear hc0 hb0
              have hO : Own wr w.heap.size (.slice A5 (joined P).length c5) (joined P) := S.b
              have hRm := hO.room.le
              have hRm2 := hO.room.max
              have hBt := hO.reads.take k hk
              have hkc : k ≤ c5 := by omega
              have hkc2 : (k : Int) ≤ (c5 : Int) := by omega
              have hk0 : (0 : Int) ≤ (k : Int) := by omega
              have hlk : ((joined P).take k).length = k := by rw [List.length_take]; omega
              have hSc := scan_any A5 c5 _ ((joined P).take k) wr hBt (Nat.le_refl _) (hSm.take k) ⟨by omega, hRm2⟩ (by omega)
              rw [hSC.out, hlk] at hSc
              dsimp only at hSc
              clear hBt hO
              go_wp2_with fail
              refine hSc.mono ?_
              rintro e w7 ⟨A9, c9, zs, he, O9, R9, b7⟩
              have hnl : (P.take n).length = n := by rw [List.length_take]; omega
              rw [hnl] at he
              subst he
              have S7 := S.size b7
              have LA : ListsAt w7 w7.heap.size A9 (P.take n) := ListsAt.of_own O9 R9
              clear S hSc O9 R9
              go_wp2_with fail
              refine (first_any _).mono ?_
              rintro e w8 ⟨rfl, b8⟩
              have S8 := S7.size b8
              have LA8 := LA.quiet (below_quiet b8 (Nat.le_refl _))
              have LB8 : ListsAt w8 w8.heap.size A6 P := ListsAt.of_ref S8.i S8.r (Nat.le_trans S8.BW S8.lo)
              have hLi := lists_same A9 A6 c9 c6 _ _ (P.take n) w8 LA8 (LB8.take n) (fun p hp => hKs p (List.mem_of_mem_take hp)) (by omega)
              rw [hnl] at hLi
              have hcn : n ≤ c6 := by obtain ⟨g, cp, e1, h5⟩ := lists_room S8.i; omega
              have hn0 : (0 : Int) ≤ ((n : Nat) : Int) := by omega
              have hnc : ((n : Nat) : Int) ≤ (c6 : Int) := by omega
              clear S7 LA LA8 LB8
              go_wp2_with fail
              refine hLi.mono ?_
              rintro e w9 ⟨rfl, g9⟩
              have S9 := S8.of g9
              clear hLi S8
              go_wp2_with fail
              go_ret
              exact ⟨rfl, S9.bel⟩
            · subst r1
              have hSC := Lib.hid (scand_cut hK8 hn hle (fun h => absurd h (by omega)) hk)
              have hEl := endAt_le P P.length
              have hO : Own wr w.heap.size (.slice A5 (joined P).length c5) (joined P) := S.b
              have hRm := hO.room.le
              have hRm2 := hO.room.max
              have hBt := hO.reads.take k hk
              have hkc : k ≤ c5 := by omega
              have hkc2 : (k : Int) ≤ (c5 : Int) := by omega
              have hk0 : (0 : Int) ≤ (k : Int) := by omega
              have hlk : ((joined P).take k).length = k := by rw [List.length_take]; omega
              have hSc := scan_any A5 c5 _ ((joined P).take k) wr hBt (Nat.le_refl _) (hSm.take k) ⟨by omega, hRm2⟩ (by omega)
              rw [hSC.out, hlk] at hSc
              dsimp only at hSc
              clear hBt hO
              go_wp2_with fail
              refine hSc.mono ?_
              rintro e w7 ⟨A9, c9, zs, he, O9, R9, b7⟩
              have hnl : (P.take P.length).length = P.length := by rw [List.length_take]; omega
              rw [hnl] at he
              subst he
              have S7 := S.size b7
              have LA : ListsAt w7 w7.heap.size A9 (P.take P.length) := ListsAt.of_own O9 R9
              clear S hSc O9 R9
              go_wp2_with fail
              refine (first_any _).mono ?_
              rintro e w8 ⟨rfl, b8⟩
              have S8 := S7.size b8
              have LA8 := LA.quiet (below_quiet b8 (Nat.le_refl _))
              have LB8 : ListsAt w8 w8.heap.size A6 P := ListsAt.of_ref S8.i S8.r (Nat.le_trans S8.BW S8.lo)
              have hLi := lists_same A9 A6 c9 c6 _ _ (P.take P.length) w8 LA8 (LB8.take P.length) (fun p hp => hKs p (List.mem_of_mem_take hp)) (by omega)
              rw [hnl] at hLi
              have hcn : P.length ≤ c6 := by obtain ⟨g, cp, e1, h5⟩ := lists_room S8.i; omega
              have hn0 : (0 : Int) ≤ ((P.length : Nat) : Int) := by omega
              have hnc : ((P.length : Nat) : Int) ≤ (c6 : Int) := by omega
              clear S7 LA LA8 LB8
              go_wp2_with fail
              refine hLi.mono ?_
              rintro e w9 ⟨rfl, g9⟩
              have S9 := S8.of g9
              clear hLi S8
              go_wp2_with fail
              go_ret
              exact ⟨rfl, S9.bel⟩
end Go.Proofs.Yteecjdlegnnbmaa
