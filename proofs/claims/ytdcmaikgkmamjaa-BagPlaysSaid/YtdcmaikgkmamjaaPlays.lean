/- BagPlays: the walk. -/
import Derived.Test.YtdcmaikgkmamjaaOrder
import Derived.Test.YtdcmaikgkmamjaaRGen
import Derived.Deep.RegionHeld3
import Derived.Deep.DrawnRows
import Derived.Laws.OwnMore
namespace Go.Proofs.Ytdcmaikgkmamjaa
open Go.RowKit
set_option linter.unusedVariables false
attribute [local go_sem ↓] Go.wp_at_zero Go.wp_at_succ
/-- The program's bag and the document's. -/
structure Twins (base : Nat) (W w : World) (b x : Nat) (n : Nat) (lost lost' : Int) (v v' : Value) (xs ys : List Value) (L K : List (List Nat)) : Prop where
  one : BagAt 49 base w b n lost v xs L
  two : BagAt 44 base w x n lost' v' ys K
  ne : b ≠ x
  ap : Ap v v'
  bel : Below base W w
  lo : base ≤ w.heap.size
section
variable {base n : Nat} {W w w' : World} {b x y : Nat} {lost lost' l2 lo lo2 : Int} {v v' v'' v0 v1 : Value} {xs ys zs x0 x1 : List Value} {L K M K0 K1 : List (List Nat)}
theorem Twins.quiet (h : Twins base W w b x n lost lost' v v' xs ys L K) (g : w.grownBy w' none) : Twins base W w' b x n lost lost' v v' xs ys L K :=
  ⟨h.one.quiet g, h.two.quiet g, h.ne, h.ap, h.bel.grown g h.lo (by simp), Nat.le_trans h.lo g.size⟩
theorem Twins.below (h : Twins base W w b x n lost lost' v v' xs ys L K) (bl : Below w.heap.size w w') : Twins base W w' b x n lost lost' v v' xs ys L K := h.quiet (below_quiet2 bl)
theorem Twins.turn1 (h : Twins base W w b x n lost lost' v v' xs ys L K) (t : Turn 49 base w w' b v xs n l2 v'' zs M) : Twins base W w' b x n l2 lost' v'' v' zs ys M K := by
  obtain ⟨o, a⟩ := t.other h.one h.two h.ne.symm h.ap.symm
  exact ⟨t.bag, o, h.ne, a.symm, t.below h.one h.bel h.lo, Nat.le_trans h.lo t.kept.size⟩
theorem Twins.turn2 (h : Twins base W w b x n lost lost' v v' xs ys L K) (t : Turn 44 base w w' x v' ys n l2 v'' zs M) : Twins base W w' b x n lost l2 v v'' xs zs L M := by
  obtain ⟨o, a⟩ := t.other h.two h.one h.ne h.ap
  exact ⟨o, t.bag, h.ne, a, t.below h.two h.bel h.lo, Nat.le_trans h.lo t.kept.size⟩
/-- The twins and an old bag that nobody asks any more. -/
structure Three (base : Nat) (W w : World) (b x : Nat) (n : Nat) (lost lost' : Int) (v v' : Value) (xs ys : List Value) (L K : List (List Nat)) (y : Nat) (lo : Int) (v0 : Value) (x0 : List Value) (K0 : List (List Nat)) : Prop where
  tw : Twins base W w b x n lost lost' v v' xs ys L K
  old : BagAt 49 base w y n lo v0 x0 K0
  nb : b ≠ y
  nx : x ≠ y
  a1 : Ap v v0
  a2 : Ap v' v0
theorem Three.turn (h : Three base W w b x n lost lost' v v' xs ys L K y lo v0 x0 K0) (t : Turn 49 base w w' y v0 x0 n lo2 v1 x1 K1) : Three base W w' b x n lost lost' v v' xs ys L K y lo2 v1 x1 K1 := by
  obtain ⟨o1, a1⟩ := t.other h.old h.tw.one h.nb h.a1
  obtain ⟨o2, a2⟩ := t.other h.old h.tw.two h.nx h.a2
  exact ⟨⟨o1, o2, h.tw.ne, h.tw.ap, t.below h.old h.tw.bel h.tw.lo, Nat.le_trans h.tw.lo t.kept.size⟩, t.bag, h.nb, h.nx, a1, a2⟩
theorem Three.quiet (h : Three base W w b x n lost lost' v v' xs ys L K y lo v0 x0 K0) (g : w.grownBy w' none) : Three base W w' b x n lost lost' v v' xs ys L K y lo v0 x0 K0 :=
  ⟨h.tw.quiet g, h.old.quiet g, h.nb, h.nx, h.a1, h.a2⟩
/-- A row of bytes that no bag holds is written. -/
theorem Twins.row (h : Twins base W w b x n lost lost' v v' xs ys L K) {g : Nat} {cur : Array Value} (hg : w.heap[g]? = some (.cells cur 5 (0, 0))) (hb : base ≤ g) (h1 : ∀ u ∈ xs, ∀ a, u.ownBlock = some a → a ≠ g) (h2 : ∀ u ∈ ys, ∀ a, u.ownBlock = some a → a ≠ g) (k : w.grownBy w' (some g)) : Twins base W w' b x n lost lost' v v' xs ys L K := by
  have K0 := Kept.of_grown k
  have e1 := h.one.not_five ⟨cur, hg⟩
  have e2 := h.two.not_five ⟨cur, hg⟩
  refine ⟨h.one.kept K0 (fun e => e1.1 (by injection e with e; exact e.symm)) (fun a ha e => e1.2 (by rw [ha, e])) (fun u hu a ha e => h1 u hu a ha (by injection e)), h.two.kept K0 (fun e => e2.1 (by injection e with e; exact e.symm)) (fun a ha e => e2.2 (by rw [ha, e])) (fun u hu a ha e => h2 u hu a ha (by injection e)), h.ne, h.ap, h.bel.grown k h.lo (fun k hk => by injection hk with hk; omega), Nat.le_trans h.lo k.size⟩
end
theorem own_turn {T base B0 : Nat} {w w' : World} {b : Nat} {r lost r'' lost'' : Int} {u v v'' : Value} {xs xs' : List Value} {K K' : List (List Nat)} {l : List Nat} (h : Own w B0 u l) (t : Turn T base w w' b v xs r'' lost'' v'' xs' K') (d : BagAt T base w b r lost v xs K) : Own w' B0 u l := by
  refine ⟨h.1, ?_⟩
  rcases h.2 with hn | ⟨a, cp, cur, rfl, hb, hc, rest⟩
  · exact .inl hn
  · exact .inr ⟨a, cp, cur, rfl, hb, (t.kept.block a (Array.getElem?_eq_some_iff.1 hc).1 (d.not_five ⟨cur, hc⟩)).trans hc, rest⟩
theorem rows_lt {w : World} {xs : List Value} {K : List (List Nat)} (h : RowsOf w xs K) : ∀ u ∈ xs, ∀ a, u.ownBlock = some a → a < w.heap.size := by
  intro u hu a ha
  obtain ⟨l, hl⟩ := h.mem hu
  obtain ⟨cur, hc⟩ := hl.five ha
  exact (Array.getElem?_eq_some_iff.1 hc).1
/-- Few rows, short ones. -/
structure Fit (K : List (List Nat)) (j : Nat) : Prop where
  len : K.length ≤ j
  row : ∀ l ∈ K, l.length ≤ 20000
theorem Fit.big {K : List (List Nat)} {j : Nat} (h : Fit K j) : ∀ l ∈ K, l.length ≤ 1000000 := fun l hl => Nat.le_trans (h.row l hl) (by omega)
theorem Fit.rowAt {K : List (List Nat)} {j : Nat} (h : Fit K j) (i : Int) : (rowAt K i).length ≤ 20000 := by
  by_cases hi : 0 ≤ i ∧ i < (K.length : Int)
  · obtain ⟨m, rfl⟩ := Int.eq_ofNat_of_zero_le hi.1
    rw [rowAt_in (by omega)]
    exact h.row _ (List.getElem_mem _)
  · rw [rowAt_out hi]; simp
theorem Fit.put {K : List (List Nat)} {j n : Nat} {m : List Nat} (h : Fit K j) (hm : m.length ≤ 20000) : Fit (putK n K m) (j + 1) := by
  unfold putK
  split
  · refine ⟨by rw [List.length_append]; have := h.len; simp; omega, fun l hl => ?_⟩
    rcases List.mem_append.1 hl with h1 | h1
    · exact h.row l h1
    · obtain rfl : l = m := by simpa using h1
      exact hm
  · exact ⟨by have := h.len; omega, h.row⟩
theorem Fit.take {K : List (List Nat)} {j : Nat} (h : Fit K j) (i : Int) : Fit (takeK K i) (j + 1) := by
  unfold takeK
  split
  · refine ⟨by rw [List.length_append, List.length_take, List.length_drop]; have := h.len; omega, fun l hl => ?_⟩
    rcases List.mem_append.1 hl with h1 | h1
    · exact h.row l (List.mem_of_mem_take h1)
    · exact h.row l (List.mem_of_mem_drop h1)
  · exact ⟨by have := h.len; omega, h.row⟩
theorem Fit.dbl {K : List (List Nat)} {j n : Nat} (h : Fit K j) (i : Int) : Fit (dblK n K i) (j + 1) := by
  unfold dblK
  split
  · refine ⟨by rw [List.length_append]; have := h.len; simp; omega, fun l hl => ?_⟩
    rcases List.mem_append.1 hl with h1 | h1
    · exact h.row l h1
    · obtain rfl : l = Ytdcmaikgkmamjaa.rowAt K i := by simpa using h1
      exact h.rowAt i
  · exact ⟨by have := h.len; omega, h.row⟩
theorem Fit.more {K : List (List Nat)} {j : Nat} (h : Fit K j) : Fit K (j + 1) := ⟨by have := h.len; omega, h.row⟩
theorem putLost_bd {n : Nat} {K : List (List Nat)} {lost : Int} {j : Nat} (h0 : 0 ≤ lost) (h1 : lost ≤ j) : 0 ≤ putLost n K lost ∧ putLost n K lost ≤ (j + 1 : Nat) := by
  unfold putLost
  split <;> omega
set_option maxRecDepth 100000 in
set_option maxHeartbeats 16000000 in
theorem plays_law (size : Int) (A : Option Addr) (c B : Nat) (L : List Op) (w : World) (ha : OpsAt w B A L) (hB : B ≤ w.heap.size) (hl : L.length ≤ maxLen) :
    Calls Try.prog 5 #[.int .i64 size, .slice A L.length c] w fun e w' => e = .returned (.bool true) ∧ Below w.heap.size w w' := by
  have hl' := hl
  unfold maxLen at hl'
  by_cases hsz : 1 ≤ size ∧ size ≤ 10000
  · obtain ⟨n, rfl⟩ := Int.eq_ofNat_of_zero_le (show 0 ≤ size by omega)
    have n1 : 1 ≤ n := by omega
    have n2 : n ≤ 10000 := by omega
    go_enter Try.func5, Try.ntmps5
    go_wp2_with fail
    refine (first_any _).mono ?_
    rintro e w1 ⟨rfl, b1⟩
    go_wp2_with fail
    refine (new_yes n (by omega) (by omega) _).mono ?_
    rintro e w2 ⟨rfl, rfl⟩
    have D0 := BagAt.new_ (T := 49) (base := w.heap.size) w1 n (.inl rfl) b1.size
    have b0 := b1.alloc b1.size (.cells #[.int .i64 n, .int .i64 0, .slice none 0 0] 49)
    obtain ⟨d, hd⟩ : ∃ d, d = w1.heap.size := ⟨_, rfl⟩
    have hD : BagAt 49 w.heap.size (w1.alloc (.cells #[.int .i64 n, .int .i64 0, .slice none 0 0] 49)) d n 0 (.slice none 0 0) [] [] := by rw [hd]; exact D0
    rw [← hd]
    have HD := Lib.hid hd
    clear hd b1 D0 hsz
    generalize w1.alloc (.cells #[.int .i64 n, .int .i64 0, .slice none 0 0] 49) = w2 at hD b0 ⊢
    have hF := few_any A c B L w2 (ha.below (b0.mono hB)) hl
    go_wp2_with fail
    refine hF.mono ?_
    clear hF
    rintro e w3 ⟨t, rfl, rfl, ht⟩
    cases t with
    | false =>
      clear ht hD
      go_wp2_with fail
      refine (first_any _).mono ?_
      rintro e w3 ⟨rfl, b3⟩
      replace b3 := b0.trans (b3.mono b0.size)
      clear b0
      go_wp2_with fail
      go_ret
      exact ⟨rfl, b3⟩
    | true =>
      obtain ⟨hl2, hT⟩ := ht rfl
      clear ht
      have hdl := hD.lt
      have X0 := BagAt.new_ (T := 44) (base := w.heap.size) w2 n (.inr rfl) b0.size
      obtain ⟨x, hx⟩ : ∃ x, x = w2.heap.size := ⟨_, rfl⟩
      have hX : BagAt 44 w.heap.size (w2.alloc (.cells #[.int .i64 n, .int .i64 0, .slice none 0 0] 44)) x n 0 (.slice none 0 0) [] [] := by rw [hx]; exact X0
      have P0 : Twins w.heap.size w (w2.alloc (.cells #[.int .i64 n, .int .i64 0, .slice none 0 0] 44)) d x n 0 0 (.slice none 0 0) (.slice none 0 0) [] [] [] [] :=
        ⟨hD.quiet (alloc_grown _ _), hX, by omega, fun g h => (by cases h), b0.alloc b0.size _, by have := b0.size; simp; omega⟩
      have HX := Lib.hid hx
      clear hx hD hX X0 hdl b0
      go_wp2_with fail
      rw [← HX.out]
      clear HX
      generalize w2.alloc (.cells #[.int .i64 n, .int .i64 0, .slice none 0 0] 44) = w3 at P0 ⊢
      go_loopw [5, 8] (fun dv iv wr => ∃ (j b : Nat) (v v' : Value) (xs ys : List Value) (K : List (List Nat)) (lost : Int), j ≤ L.length ∧ iv = .int .i64 j ∧ dv = .pointer (some ⟨b, 0, none⟩) ∧ Twins w.heap.size w wr b x n lost lost v v' xs ys K K ∧ Fit K j ∧ 0 ≤ lost ∧ lost ≤ j) (fun _ iv _ => L.length - (intOf iv).toNat)
      case atStart => exact ⟨0, d, _, _, _, _, [], 0, Nat.zero_le _, rfl, rfl, P0, ⟨Nat.le_refl _, by simp⟩, by omega, by omega⟩
      case round =>
        clear P0 HD
        obtain ⟨j, b, v, v', xs, ys, K, lost, hj, rfl, rfl, P, F, l0, l1⟩ := hrel
        by_cases hlt : j < L.length
        · obtain ⟨ad, A1, c1, rfl, C0⟩ := ha.call hlt
          have tot := Nat.le_trans (total_one hlt) hT
          have fit := ha.fit L[j] (List.getElem_mem hlt)
          have KS := Lib.hid (fun (w' : World) (hb : Below w.heap.size w w') => C0.below (hb.mono hB))
          have hkl := F.len
          have j0 : (0 : Int) ≤ (j : Int) := by omega
          have j1 : (j : Int) < (L.length : Int) := by omega
          rcases (show L[j].k = 0 ∨ (L[j].k ≠ 0 ∧ L[j].k = 1) ∨ (L[j].k ≠ 0 ∧ L[j].k ≠ 1 ∧ L[j].k = 2) ∨ (L[j].k ≠ 0 ∧ L[j].k ≠ 1 ∧ L[j].k ≠ 2) by omega) with q | ⟨q, q1⟩ | ⟨q, q1, q2⟩ | ⟨q, q1, q2⟩
          · as_aux_lemma =>
              have e0 : (L[j].k == 0) = true := by simpa using q
              have C := KS.out _ P.bel
              have hc0 := C.k
              have hc2 := C.b
              go_wp2_with fail
              refine (copy_any A1 c1 _ L[j].b _ C.bytes (by omega)).mono ?_
              rintro e w5 ⟨A5, c5, rfl, O5, b5⟩
              have R5 := (RowIs.own O5 C.small).bytes.2.1
              have hN0 := World.ownsRow.lt O5
              have X1 := rows_lt P.one.rows
              have X2 := rows_lt P.two.rows
              have hlo := P.lo
              have P6 := (P.below b5).quiet (drew_one w5)
              have O6 := Own.grown O5 (drew_one w5) (by cases h : (Value.slice A5 L[j].b.length c5).ownBlock <;> simp)
              have h56 := (drew_one w5).size
              have hsm := C.small
              clear P O5 C hc0 hc2
              have hc2 := (KS.out _ P6.bel).b
              have hb5 := b5.size
              have K1 := put_gen P6.one P6.lo (by omega) l0 (by omega) (m := L[j].b) O6.reads (Nat.le_refl _) R5 hsm (by omega)
              have hRM := R5.max
              unfold maxLen at hRM
              have hRK := R5.le
              go_wp2_with fail
              go_region_held3 (fun w' => w'.cell? ⟨(ad.add (j * 3)).block, (ad.add (j * 3)).off + 2, none⟩ = some (.slice A1 L[j].b.length c1)) (first | exact (KS.out _ (Twins.bel (by assumption))).b | go_keep) (first
                | (go_at_call 10; refine K1.mono ?_; rintro e w7 ⟨v7, xs7, rfl, T7⟩; have P7 := P6.turn1 T7; have O7 := own_turn O6 T7 P6.one)
                | (go_at_call 19; refine (Ref.put_gen P7.two P7.lo (by omega) l0 (by omega) (KS.out _ P7.bel).bytes (Nat.le_trans hB P7.lo) (KS.out _ P7.bel).room hsm (by omega)).mono ?_; rintro e w8 ⟨v8, ys8, rfl, T8⟩; have P8 := P7.turn2 T8; have O8 := own_turn O7 T8 P7.two)
                | (go_at_call 16; refine (bytes_any A5 A1 c5 c1 _ _ L[j].b L[j].b _ O8.reads (KS.out _ P8.bel).bytes hsm hsm).mono ?_; rintro e w9 ⟨rfl, rfl⟩; rw [decide_eq_true rfl]))
              have HN : ∀ g, (Value.slice A5 L[j].b.length c5).ownBlock = some g → (∀ u ∈ xs7, ∀ a, u.ownBlock = some a → a ≠ g) ∧ (∀ u ∈ ys8, ∀ a, u.ownBlock = some a → a ≠ g) ∧ w.heap.size ≤ g := by
                intro g hg
                have h0 := hN0 g hg
                have h1 := T7.kept.size
                refine ⟨fun u hu a ha => ?_, fun u hu a ha => ?_, by omega⟩
                · rcases T7.rows u hu with h | h
                  · have := X1 u h a ha; omega
                  · have := h a ha; omega
                · rcases T8.rows u hu with h | h
                  · have := X2 u h a ha; omega
                  · have := h a ha; omega
              have HNN := Lib.hid HN
              obtain ⟨W5, hW5⟩ : ∃ W5, W5 = wr.heap.size := ⟨_, rfl⟩
              have hOr : w8.ownsRow W5 5 1 (.slice A5 L[j].b.length c5) L[j].b.length (bys L[j].b) := by rw [hW5]; exact O8
              have mm := putLost_bd (n := n) (K := K) l0 l1
              have F9 := F.put (n := n) (m := L[j].b) (by omega)
              generalize putK n K L[j].b = K9 at P8 F9
              generalize putLost n K lost = l9 at P8 mm
              obtain ⟨m0, m1⟩ := mm
              clear hW5 HN hN0 X1 X2 hlo P6 P7 O6 O7 O8 T7 T8 K1 b5 hb5 h56 hc2 R5
              go_wp2_with fail
              go_loopw [11] (fun kv wr => ∃ (k : Nat) (zs : List Value), k ≤ L[j].b.length ∧ kv = .int .i64 k ∧ wr.ownsRow W5 5 1 (.slice A5 L[j].b.length c5) L[j].b.length zs ∧ (∀ u ∈ zs, ∃ z : Int, u = .int .u8 z) ∧ Twins w.heap.size w wr b x n l9 l9 v7 v8 xs7 ys8 K9 K9) (fun kv _ => L[j].b.length - (intOf kv).toNat)
              case atStart => exact ⟨0, _, Nat.zero_le _, rfl, hOr, bys_int _, P8⟩
              case round =>
                clear hOr P8
                obtain ⟨k, zs, hk, rfl, hO, hxs, P14⟩ := hrel
                by_cases hkl : k < L[j].b.length
                · have hlx := hO.1
                  rcases hO.2 with ⟨e, hn⟩ | ⟨g, cp, cur, e, hbase, hg, _⟩
                  · omega
                  · injection e with e1 e2 e3
                    subst e1 e3
                    have hxk : k < zs.length := by omega
                    obtain ⟨z, hz⟩ := hxs zs[k] (List.getElem_mem hxk)
                    have hcell : wr.cell? ⟨g, k, none⟩ = some (.int .u8 z) := by rw [World.ownsRow.cellAt hO k (by omega), List.getElem?_eq_getElem hxk, hz]
                    have hfz := World.ownsRow.frozenAt hO k
                    have st := Lib.hid (fun u => World.ownsRow.stored hO k u)
                    obtain ⟨n1, n2, n3⟩ := HNN.out g rfl
                    have P15 := Lib.hid (fun u => P14.row hg n3 n1 n2 (st.out u).2)
                    have hset : Hid (∀ y, ∀ u ∈ zs.set k (.int .u8 y), ∃ z : Int, u = .int .u8 z) := Lib.hid (fun y u hu => (List.mem_or_eq_of_mem_set hu).elim (hxs u) (fun e => ⟨_, e⟩))
                    have hk0 : (0 : Int) ≤ (k : Int) := by omega
                    have hk1 : (k : Int) < (L[j].b.length : Int) := by omega
                    clear hxs hO hz hg n1 n2 P14 hlx
                    go_wp2_with fail
                    go_roundw
                    case rel => exact ⟨k + 1, _, by omega, by go_num, (st.out _).1, hset.out _, P15.out _⟩
                    case measure => simp [intOf]; omega
                · obtain rfl : k = L[j].b.length := by omega
                  have P9 := P14
                  clear P14 hO hxs
                  obtain ⟨AH, cH, rfl⟩ := header_form P9.two.own
                  have PX := P9.quiet (drew_one _)
                  have xc1 := P9.two.cell1
                  have xc2 := P9.two.cell2
                  have hk9 := F9.len
                  clear P9 F KS C0 fit tot e0 q

                  go_wp2_with fail
                  go_region_held3 (fun w' => w'.cell? ⟨x, 1, none⟩ = some (.int .i64 l9) ∧ w'.cell? ⟨x, 2, none⟩ = some (.slice AH K9.length cH)) (first | exact ⟨BagAt.cell1 (Twins.two (by assumption)), BagAt.cell2 (Twins.two (by assumption))⟩ | go_keep) (first
                    | (go_at_call 12; refine (len_any PX.one).mono ?_; rintro e w20 ⟨rfl, rfl⟩)
                    | (go_at_call 17; refine (lost_any PX.one).mono ?_; rintro e w21 ⟨rfl, rfl⟩))
                  clear xc1 xc2
                  go_wp2_with fail
                  go_loopw [17] (fun kv wr2 => ∃ k : Int, -1 ≤ k ∧ k ≤ 40 ∧ kv = .int .i64 k ∧ Twins w.heap.size w wr2 b x n l9 l9 v7 (.slice AH K9.length cH) xs7 ys8 K9 K9) (fun kv _ => (41 - intOf kv).toNat)
                  case atStart => exact ⟨-1, by omega, by omega, rfl, PX⟩
                  case round =>
                    clear PX
                    obtain ⟨k, k0, k1, rfl, PY⟩ := hrel
                    have yc2 := PY.two.cell2
                    by_cases hk : k ≤ (K9.length : Int)
                    · by_cases hk4 : k < 40
                      · go_wp2_with fail
                        refine (get_gen PY.one (by omega) F9.big k).mono ?_
                        rintro e w12 ⟨A12, c12, rfl, R12, b12⟩
                        have PZ := PY.below b12
                        clear PY yc2
                        go_wp2_with fail
                        refine (Ref.get_gen PZ.two (by omega) F9.big k).mono ?_
                        rintro e w13 ⟨A13, c13, rfl, R13, b13⟩
                        have PU := PZ.below b13
                        have R14 := R12.kept (Kept.quiet (P := fun _ => True) (below_quiet2 b13)) (fun _ _ => trivial)
                        have Q := bytes_any A12 A13 c12 c13 _ _ _ _ w13 R14.bytes.1 R13.bytes.1 R14.bytes.2.2.1 R13.bytes.2.2.1
                        rw [decide_eq_true rfl] at Q
                        clear PZ b12 b13 R12
                        go_wp2_with fail
                        refine Q.mono ?_
                        clear Q R13 R14
                        rintro e w14 ⟨rfl, rfl⟩
                        go_wp2_with fail
                        go_roundw
                        case rel => exact ⟨k + 1, by omega, by omega, by go_num, PU⟩
                        case measure => simp [intOf]; omega
                      · clear k1 k0
                        go_wp2_with fail
                        go_roundw
                        case rel => exact ⟨j + 1, b, _, _, _, _, K9, l9, by omega, by go_num, rfl, PY, F9, m0, m1⟩
                        case measure => simp [intOf]; omega
                    · clear k1 k0
                      go_wp2_with fail
                      go_roundw
                      case rel => exact ⟨j + 1, b, _, _, _, _, K9, l9, by omega, by go_num, rfl, PY, F9, m0, m1⟩
                      case measure => simp [intOf]; omega
          · as_aux_lemma =>
              have e0 : (L[j].k == 0) = false := by simpa using q
              have e1 : (L[j].k == 1) = true := by simpa using q1
              have C := KS.out _ P.bel
              have hc0 := C.k
              have hc1 := C.n
              go_wp2_with fail
              refine (take_gen P.one P.lo (by omega) F.big L[j].n).mono ?_
              rintro e w5 ⟨A5, c5, v5, xs5, rfl, R5, T5⟩
              have P5 := P.turn1 T5
              have C5 := KS.out _ P5.bel
              have hc5 := C5.n
              clear P T5 hc0 hc1 C
              go_wp2_with fail
              refine (Ref.take_gen P5.two P5.lo (by omega) F.big L[j].n).mono ?_
              rintro e w6 ⟨A6, c6, v6, ys6, rfl, R6, T6⟩
              have Q6 := P5.turn2 T6
              replace R5 := R5.turn T6 P5.two
              have Q := bytes_any A5 A6 c5 c6 _ _ _ _ w6 R5.bytes.1 R6.bytes.1 R5.bytes.2.2.1 R5.bytes.2.2.1
              rw [decide_eq_true rfl] at Q
              clear P5 T6 C5 hc5
              go_wp2_with fail
              refine Q.mono ?_
              clear Q R5 R6
              rintro e w7 ⟨rfl, rfl⟩
              have FT := F.take L[j].n
              have P9 := Q6
              have F9 := FT
              have m0 := l0
              have m1 : lost ≤ ((j + 1 : Nat) : Int) := by omega
              clear Q6 FT
              generalize takeK K L[j].n = K9 at P9 F9
              obtain ⟨AH, cH, rfl⟩ := header_form P9.two.own
              have PX := P9.quiet (drew_one _)
              have xc1 := P9.two.cell1
              have xc2 := P9.two.cell2
              have hk9 := F9.len
              clear P9 F KS C0 fit tot e0 q

              go_wp2_with fail
              go_region_held3 (fun w' => w'.cell? ⟨x, 1, none⟩ = some (.int .i64 lost) ∧ w'.cell? ⟨x, 2, none⟩ = some (.slice AH K9.length cH)) (first | exact ⟨BagAt.cell1 (Twins.two (by assumption)), BagAt.cell2 (Twins.two (by assumption))⟩ | go_keep) (first
                | (go_at_call 12; refine (len_any PX.one).mono ?_; rintro e w20 ⟨rfl, rfl⟩)
                | (go_at_call 17; refine (lost_any PX.one).mono ?_; rintro e w21 ⟨rfl, rfl⟩))
              clear xc1 xc2
              go_wp2_with fail
              go_loopw [17] (fun kv wr2 => ∃ k : Int, -1 ≤ k ∧ k ≤ 40 ∧ kv = .int .i64 k ∧ Twins w.heap.size w wr2 b x n lost lost v5 (.slice AH K9.length cH) xs5 ys6 K9 K9) (fun kv _ => (41 - intOf kv).toNat)
              case atStart => exact ⟨-1, by omega, by omega, rfl, PX⟩
              case round =>
                clear PX
                obtain ⟨k, k0, k1, rfl, PY⟩ := hrel
                have yc2 := PY.two.cell2
                by_cases hk : k ≤ (K9.length : Int)
                · by_cases hk4 : k < 40
                  · go_wp2_with fail
                    refine (get_gen PY.one (by omega) F9.big k).mono ?_
                    rintro e w12 ⟨A12, c12, rfl, R12, b12⟩
                    have PZ := PY.below b12
                    clear PY yc2
                    go_wp2_with fail
                    refine (Ref.get_gen PZ.two (by omega) F9.big k).mono ?_
                    rintro e w13 ⟨A13, c13, rfl, R13, b13⟩
                    have PU := PZ.below b13
                    have R14 := R12.kept (Kept.quiet (P := fun _ => True) (below_quiet2 b13)) (fun _ _ => trivial)
                    have Q := bytes_any A12 A13 c12 c13 _ _ _ _ w13 R14.bytes.1 R13.bytes.1 R14.bytes.2.2.1 R13.bytes.2.2.1
                    rw [decide_eq_true rfl] at Q
                    clear PZ b12 b13 R12
                    go_wp2_with fail
                    refine Q.mono ?_
                    clear Q R13 R14
                    rintro e w14 ⟨rfl, rfl⟩
                    go_wp2_with fail
                    go_roundw
                    case rel => exact ⟨k + 1, by omega, by omega, by go_num, PU⟩
                    case measure => simp [intOf]; omega
                  · clear k1 k0
                    go_wp2_with fail
                    go_roundw
                    case rel => exact ⟨j + 1, b, _, _, _, _, K9, lost, by omega, by go_num, rfl, PY, F9, m0, m1⟩
                    case measure => simp [intOf]; omega
                · clear k1 k0
                  go_wp2_with fail
                  go_roundw
                  case rel => exact ⟨j + 1, b, _, _, _, _, K9, lost, by omega, by go_num, rfl, PY, F9, m0, m1⟩
                  case measure => simp [intOf]; omega
          · as_aux_lemma =>
              have e0 : (L[j].k == 0) = false := by simpa using q
              have e1 : (L[j].k == 1) = false := by simpa using q1
              have e2 : (L[j].k == 2) = true := by simpa using q2
              have P2 := P.quiet (drew_one _)
              have C := KS.out _ P.bel
              have hc0 := C.k
              have hc1 := C.n
              clear P
              go_wp2_with fail
              go_region_held3 (fun w' => w'.cell? ⟨(ad.add (j * 3)).block, (ad.add (j * 3)).off + 1, none⟩ = some (.int .i64 L[j].n)) (first | exact (KS.out _ (Twins.bel (by assumption))).n | go_keep) (first
                | (go_at_call 11; refine (double_gen P2.one P2.lo (by omega) F.big L[j].n).mono ?_; rintro e w5 ⟨v5, xs5, rfl, T5⟩; have P5 := P2.turn1 T5)
                | (go_at_call 21; refine (Ref.double_gen P5.two P5.lo (by omega) F.big L[j].n).mono ?_; rintro e w6 ⟨v6, ys6, rfl, T6⟩; have P9 := P5.turn2 T6))
              clear P2 P5 T5 T6 C hc0 hc1
              have F9 := F.dbl (n := n) L[j].n
              have m0 := l0
              have m1 : lost ≤ ((j + 1 : Nat) : Int) := by omega
              generalize dblK n K L[j].n = K9 at P9 F9
              obtain ⟨AH, cH, rfl⟩ := header_form P9.two.own
              have PX := P9.quiet (drew_one _)
              have xc1 := P9.two.cell1
              have xc2 := P9.two.cell2
              have hk9 := F9.len
              clear P9 F KS C0 fit tot e0 q

              go_wp2_with fail
              go_region_held3 (fun w' => w'.cell? ⟨x, 1, none⟩ = some (.int .i64 lost) ∧ w'.cell? ⟨x, 2, none⟩ = some (.slice AH K9.length cH)) (first | exact ⟨BagAt.cell1 (Twins.two (by assumption)), BagAt.cell2 (Twins.two (by assumption))⟩ | go_keep) (first
                | (go_at_call 12; refine (len_any PX.one).mono ?_; rintro e w20 ⟨rfl, rfl⟩)
                | (go_at_call 17; refine (lost_any PX.one).mono ?_; rintro e w21 ⟨rfl, rfl⟩))
              clear xc1 xc2
              go_wp2_with fail
              go_loopw [17] (fun kv wr2 => ∃ k : Int, -1 ≤ k ∧ k ≤ 40 ∧ kv = .int .i64 k ∧ Twins w.heap.size w wr2 b x n lost lost v5 (.slice AH K9.length cH) xs5 ys6 K9 K9) (fun kv _ => (41 - intOf kv).toNat)
              case atStart => exact ⟨-1, by omega, by omega, rfl, PX⟩
              case round =>
                clear PX
                obtain ⟨k, k0, k1, rfl, PY⟩ := hrel
                have yc2 := PY.two.cell2
                by_cases hk : k ≤ (K9.length : Int)
                · by_cases hk4 : k < 40
                  · go_wp2_with fail
                    refine (get_gen PY.one (by omega) F9.big k).mono ?_
                    rintro e w12 ⟨A12, c12, rfl, R12, b12⟩
                    have PZ := PY.below b12
                    clear PY yc2
                    go_wp2_with fail
                    refine (Ref.get_gen PZ.two (by omega) F9.big k).mono ?_
                    rintro e w13 ⟨A13, c13, rfl, R13, b13⟩
                    have PU := PZ.below b13
                    have R14 := R12.kept (Kept.quiet (P := fun _ => True) (below_quiet2 b13)) (fun _ _ => trivial)
                    have Q := bytes_any A12 A13 c12 c13 _ _ _ _ w13 R14.bytes.1 R13.bytes.1 R14.bytes.2.2.1 R13.bytes.2.2.1
                    rw [decide_eq_true rfl] at Q
                    clear PZ b12 b13 R12
                    go_wp2_with fail
                    refine Q.mono ?_
                    clear Q R13 R14
                    rintro e w14 ⟨rfl, rfl⟩
                    go_wp2_with fail
                    go_roundw
                    case rel => exact ⟨k + 1, by omega, by omega, by go_num, PU⟩
                    case measure => simp [intOf]; omega
                  · clear k1 k0
                    go_wp2_with fail
                    go_roundw
                    case rel => exact ⟨j + 1, b, _, _, _, _, K9, lost, by omega, by go_num, rfl, PY, F9, m0, m1⟩
                    case measure => simp [intOf]; omega
                · clear k1 k0
                  go_wp2_with fail
                  go_roundw
                  case rel => exact ⟨j + 1, b, _, _, _, _, K9, lost, by omega, by go_num, rfl, PY, F9, m0, m1⟩
                  case measure => simp [intOf]; omega
          · as_aux_lemma =>
              have e0 : (L[j].k == 0) = false := by simpa using q
              have e1 : (L[j].k == 1) = false := by simpa using q1
              have e2 : (L[j].k == 2) = false := by simpa using q2
              have C := KS.out _ P.bel
              have hc0 := C.k
              have K1 := copy_bag P.one P.lo (by omega) F.big
              go_wp2_with fail
              refine K1.mono ?_
              clear K1 C hc0
              rintro e w4 ⟨c4, v4, xs4, rfl, C4⟩
              have hdl := P.one.lt
              have hvl : ∀ g, v.ownBlock = some g → g < wr.heap.size := fun g hg => by
                obtain ⟨_, cur, hc⟩ := header_thirty P.one.own hg
                exact (Array.getElem?_eq_some_iff.1 hc).1
              have hxl := P.two.lt
              have hxv : ∀ g, v'.ownBlock = some g → g < wr.heap.size := fun g hg => by
                obtain ⟨_, cur, hc⟩ := header_thirty P.two.own hg
                exact (Array.getElem?_eq_some_iff.1 hc).1
              have E4 : Three w.heap.size w w4 c4 x n lost lost v4 v' xs4 ys K K b lost v xs K := ⟨⟨C4.new, P.two.quiet C4.kept, by have := C4.far; omega, fun g h1 h2 => by have := C4.head g h1; have := hxv g h2; omega, P.bel.grown C4.kept P.lo (by simp), Nat.le_trans P.lo C4.kept.size⟩, C4.old, by have := C4.far; omega, P.ne.symm, fun g h1 h2 => by have := C4.head g h1; have := hvl g h2; omega, P.ap.symm⟩
              have E5 := E4.quiet (alloc_grown w4 (.cells #[.int .u8 9] 5))
              have K1 := put_gen E5.old E5.tw.lo (by omega) l0 (by omega) (lit_bytes w4 #[.int .u8 9] [9] rfl) (by simp) (lit_room _ 1 (by simp [maxLen])) (by simp [Small]) (by simp)
              clear P C4 E4 hvl hxv hdl hxl
              go_wp2_with fail
              refine K1.mono ?_
              clear K1
              rintro e w6 ⟨v6, xs6, rfl, T6⟩
              have E6 := E5.turn T6
              have FP : Fit (putK n K [9]) (j + 1) := F.put (by simp)
              have hfp := FP.len
              have K1 := take_gen E6.old E6.tw.lo (by omega) FP.big 0
              clear E5 T6
              go_wp2_with fail
              refine K1.mono ?_
              clear K1
              rintro e w7 ⟨A7, c7, v7, xs7, rfl, _, T7⟩
              have E7 := E6.turn T7
              have P9 := E7.tw
              have F9 := F.more
              have m0 := l0
              have m1 : lost ≤ ((j + 1 : Nat) : Int) := by omega
              clear E6 E7 T7 FP hfp
              obtain ⟨AH, cH, rfl⟩ := header_form P9.two.own
              have PX := P9.quiet (drew_one _)
              have xc1 := P9.two.cell1
              have xc2 := P9.two.cell2
              have hk9 := F9.len
              clear P9 F KS C0 fit tot e0 q

              go_wp2_with fail
              go_region_held3 (fun w' => w'.cell? ⟨x, 1, none⟩ = some (.int .i64 lost) ∧ w'.cell? ⟨x, 2, none⟩ = some (.slice AH K.length cH)) (first | exact ⟨BagAt.cell1 (Twins.two (by assumption)), BagAt.cell2 (Twins.two (by assumption))⟩ | go_keep) (first
                | (go_at_call 12; refine (len_any PX.one).mono ?_; rintro e w20 ⟨rfl, rfl⟩)
                | (go_at_call 17; refine (lost_any PX.one).mono ?_; rintro e w21 ⟨rfl, rfl⟩))
              clear xc1 xc2
              go_wp2_with fail
              go_loopw [17] (fun kv wr2 => ∃ k : Int, -1 ≤ k ∧ k ≤ 40 ∧ kv = .int .i64 k ∧ Twins w.heap.size w wr2 c4 x n lost lost v4 (.slice AH K.length cH) xs4 ys K K) (fun kv _ => (41 - intOf kv).toNat)
              case atStart => exact ⟨-1, by omega, by omega, rfl, PX⟩
              case round =>
                clear PX
                obtain ⟨k, k0, k1, rfl, PY⟩ := hrel
                have yc2 := PY.two.cell2
                by_cases hk : k ≤ (K.length : Int)
                · by_cases hk4 : k < 40
                  · go_wp2_with fail
                    refine (get_gen PY.one (by omega) F9.big k).mono ?_
                    rintro e w12 ⟨A12, c12, rfl, R12, b12⟩
                    have PZ := PY.below b12
                    clear PY yc2
                    go_wp2_with fail
                    refine (Ref.get_gen PZ.two (by omega) F9.big k).mono ?_
                    rintro e w13 ⟨A13, c13, rfl, R13, b13⟩
                    have PU := PZ.below b13
                    have R14 := R12.kept (Kept.quiet (P := fun _ => True) (below_quiet2 b13)) (fun _ _ => trivial)
                    have Q := bytes_any A12 A13 c12 c13 _ _ _ _ w13 R14.bytes.1 R13.bytes.1 R14.bytes.2.2.1 R13.bytes.2.2.1
                    rw [decide_eq_true rfl] at Q
                    clear PZ b12 b13 R12
                    go_wp2_with fail
                    refine Q.mono ?_
                    clear Q R13 R14
                    rintro e w14 ⟨rfl, rfl⟩
                    go_wp2_with fail
                    go_roundw
                    case rel => exact ⟨k + 1, by omega, by omega, by go_num, PU⟩
                    case measure => simp [intOf]; omega
                  · clear k1 k0
                    go_wp2_with fail
                    go_roundw
                    case rel => exact ⟨j + 1, c4, _, _, _, _, K, lost, by omega, by go_num, rfl, PY, F9, m0, m1⟩
                    case measure => simp [intOf]; omega
                · clear k1 k0
                  go_wp2_with fail
                  go_roundw
                  case rel => exact ⟨j + 1, c4, _, _, _, _, K, lost, by omega, by go_num, rfl, PY, F9, m0, m1⟩
                  case measure => simp [intOf]; omega
        · obtain rfl : j = L.length := by omega
          go_wp2_with fail
          refine (first_any _).mono ?_
          rintro e w4 ⟨rfl, b4⟩
          have b5 := P.bel.trans (b4.mono P.lo)
          clear P b4
          go_wp2_with fail
          go_ret
          exact ⟨rfl, b5⟩
  · rcases (show size < 1 ∨ (¬ size < 1 ∧ 10000 < size) by omega) with q | ⟨q, q2⟩
    all_goals
      go_enter Try.func5, Try.ntmps5
      go_wp2_with fail
      refine (first_any _).mono ?_
      rintro e w1 ⟨rfl, b1⟩
      go_wp2_with fail
      refine (new_no size hsz _).mono ?_
      rintro e w2 ⟨rfl, rfl⟩
      go_wp2_with fail
      refine (first_any _).mono ?_
      rintro e w3 ⟨rfl, b3⟩
      replace b3 := b1.trans (b3.mono b1.size)
      clear b1
      go_wp2_with fail
      go_ret
      exact ⟨rfl, b3⟩
end Go.Proofs.Ytdcmaikgkmamjaa
