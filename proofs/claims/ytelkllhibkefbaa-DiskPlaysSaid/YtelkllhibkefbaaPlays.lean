/- DiskPlays: the walk. -/
import Derived.Test.YtelkllhibkefbaaCuts
import Derived.Test.YtelkllhibkefbaaRDoes
import Derived.Deep.RegionHeld3
import Derived.Deep.DrawnRows
import Derived.Laws.OwnMore
namespace Go.Proofs.Ytelkllhibkefbaa
open Go.RowKit
set_option linter.unusedVariables false
attribute [local go_sem ↓] Go.wp_at_zero Go.wp_at_succ
/-- The program's disk, and the document's. -/
structure Both (W : World) (d x : Nat) (A A' : Option Addr) (c c' : Nat) (S : St) (w : World) : Prop where
  pd : DiskIs w d A c S
  px : Ref.DiskIs w x A' c' S
  bel : Below W.heap.size W w
  ld : W.heap.size ≤ d
  lx : W.heap.size ≤ x
section
variable {W w w' : World} {d x : Nat} {A A' : Option Addr} {c c' : Nat} {S : St}
theorem Both.quiet (h : Both W d x A A' c c' S w) (g : w.grownBy w' none) : Both W d x A A' c c' S w' :=
  ⟨DiskAt.quiet h.pd g, Ref.DiskAt.quiet h.px g, h.bel.grown g h.bel.size (by simp), h.ld, h.lx⟩
theorem Both.below (h : Both W d x A A' c c' S w) (b : Below w.heap.size w w') : Both W d x A A' c c' S w' := h.quiet (below_quiet2 b)
theorem Both.other (h : Both W d x A A' c c' S w) {y : Nat} {ry sy : Int} {Ay : Option Addr} {cy : Nat} {ly : List Nat} (o : DiskAt w y ry sy Ay cy ly) (hne : y ≠ d) (hy : W.heap.size ≤ y) (g : w.grownBy w' (some y)) : Both W d x A A' c c' S w' :=
  ⟨DiskAt.beside h.pd o hne g, Ref.DiskAt.besideD h.px o g, h.bel.grown g h.bel.size (fun k hk => by injection hk with hk; omega), h.ld, h.lx⟩
/-- A row of one's own, made later than both. -/
theorem Both.row (h : Both W d x A A' c c' S w) {g : Nat} {cur : Array Value} (hg : w.heap[g]? = some (.cells cur 5 (0, 0))) (h1 : ∀ ad, A = some ad → ad.block ≠ g) (h2 : ∀ ad, A' = some ad → ad.block ≠ g) (hW : W.heap.size ≤ g) (k : w.grownBy w' (some g)) : Both W d x A A' c c' S w' :=
  ⟨DiskAt.grown h.pd k (fun e => by injection e with e; exact DiskAt.row_ne h.pd ⟨cur, hg⟩ e) (fun ad e e2 => h1 ad e (by injection e2)), Ref.DiskAt.grown h.px k (fun e => by injection e with e; exact Ref.DiskAt.row_ne h.px ⟨cur, hg⟩ e) (fun ad e e2 => h2 ad e (by injection e2)), h.bel.grown k h.bel.size (fun k hk => by injection hk with hk; omega), h.ld, h.lx⟩
end
theorem bys_int (l : List Nat) : ∀ u ∈ bys l, ∃ z : Int, u = .int .u8 z := by
  intro u hu
  obtain ⟨n, _, rfl⟩ := List.mem_map.1 hu
  exact ⟨_, rfl⟩
theorem row_lt {w : World} {b : Nat} (h : ∃ cur, w.heap[b]? = some (.cells cur 5 (0, 0))) : b < w.heap.size := by
  obtain ⟨cur, hc⟩ := h
  exact (Array.getElem?_eq_some_iff.1 hc).1
/-- An append of whatever size: the disk is a disk. -/
theorem append_some {w : World} {d c : Nat} {r : Int} {s : Nat} {A : Option Addr} {l : List Nat} (h : DiskAt w d r s A c l) {B : Nat} {A2 : Option Addr} {c2 : Nat} {k : List Nat} (hk : BytesAt w B A2 k) (hBw : B ≤ w.heap.size) (hr : Room A2 k.length c2) (hs : Small k) (hl : l.length ≤ 20000) (hl2 : k.length ≤ 20000) (h1 : 0 ≤ r) (h2 : r ≤ 1073741824) :
    Calls Try.prog 15 #[.pointer (some ⟨d, 0, none⟩), .slice A2 k.length c2] w fun e w' => ∃ (A' : Option Addr) (c' : Nat) (X : List Nat) (v : Int), e = .returned (.int .i64 v) ∧ DiskAt w' d r s A' c' X ∧ w.grownBy w' (some d) ∧ l.length ≤ X.length ∧ X.length ≤ 40000 := by
  by_cases p2 : (k.length : Int) ≤ r - l.length
  · exact (append_yes h hk hBw hr hs (by omega) (by omega) h1 h2 p2).mono fun e w' ⟨A', c', he, h1, h2⟩ => ⟨A', c', l ++ k, 0, he, h1, h2, by simp, by simp; omega⟩
  · exact (append_no h (Nat.le_trans hr.le hr.max) (by omega) h1 h2 p2).mono fun e w' ⟨he, h1, h2⟩ => ⟨A, c, l, 9, he, h1, grown_one h2, Nat.le_refl _, by omega⟩
set_option maxRecDepth 100000 in
set_option maxHeartbeats 8000000 in
theorem plays_law (size : Int) (A : Option Addr) (c B : Nat) (L : List Op) (w : World) (ha : OpsAt w B A L) (hB : B ≤ w.heap.size) (hl : L.length ≤ maxLen) :
    Calls Try.prog 7 #[.int .i64 size, .slice A L.length c] w fun e w' => e = .returned (.bool true) ∧ Below w.heap.size w w' := by
  have hl' := hl
  unfold maxLen at hl'
  rcases (show (0 ≤ size ∧ size ≤ 1073741824) ∨ size < 0 ∨ (0 ≤ size ∧ 1073741824 < size) by omega) with ⟨z0, z1⟩ | hz | ⟨hz, hz2⟩
  rotate_left
  iterate 2
    go_enter Try.func7, Try.ntmps7
    go_wp2_with fail
    refine (first_any _).mono ?_
    rintro e w1 ⟨rfl, b1⟩
    go_wp2_with fail
    refine (new_no size (by omega) _).mono ?_
    rintro e w2 ⟨rfl, rfl⟩
    go_wp2_with fail
    refine (first_any _).mono ?_
    rintro e w3 ⟨rfl, b3⟩
    replace b3 := b1.trans (b3.mono b1.size)
    clear b1
    go_wp2_with fail
    go_ret
    exact ⟨rfl, b3⟩
  go_enter Try.func7, Try.ntmps7
  go_wp2_with fail
  refine (first_any _).mono ?_
  rintro e w1 ⟨rfl, b1⟩
  go_wp2_with fail
  refine (new_yes size z0 z1 _).mono ?_
  rintro e w2 ⟨rfl, rfl⟩
  have D0 := DiskAt.new_ w1 size
  have b0 := b1.alloc b1.size (.cells #[.int .i64 size, .int .i64 0, .slice none 0 0] 52)
  obtain ⟨d, hd⟩ : ∃ d, d = w1.heap.size := ⟨_, rfl⟩
  rw [← hd] at D0
  rw [← hd]
  have hdw : w.heap.size ≤ d := by have := b1.size; omega
  have HD := Lib.hid hd
  clear hd b1
  generalize w1.alloc (.cells #[.int .i64 size, .int .i64 0, .slice none 0 0] 52) = w2 at D0 b0 ⊢
  have hF := few_any A c B L w2 (ha.below (b0.mono hB)) hl
  go_wp2_with fail
  refine hF.mono ?_
  clear hF
  rintro e w3 ⟨t, rfl, rfl, ht⟩
  cases t with
  | false =>
    clear ht D0
    go_wp2_with fail
    refine (first_any _).mono ?_
    rintro e w3 ⟨rfl, b3⟩
    replace b3 := b0.trans (b3.mono b0.size)
    clear b0
    go_wp2_with fail
    go_ret
    exact ⟨rfl, b3⟩
  | true =>
    obtain ⟨hl2, hT⟩ := ht rfl
    clear ht
    have X0 := Ref.DiskAt.new_ w2 size
    have B0 : Both w d w2.heap.size none none 0 0 ⟨size, 0, []⟩ (w2.alloc (.cells #[.int .i64 size, .int .i64 0, .slice none 0 0] 45)) :=
      ⟨D0.quiet (alloc_grown _ _), X0, b0.alloc b0.size _, hdw, b0.size⟩
    clear D0 X0 b0
    obtain ⟨x, hx⟩ : ∃ x, x = w2.heap.size := ⟨_, rfl⟩
    rw [← hx] at B0
    have HX := Lib.hid hx
    clear hx
    go_wp2_with fail
    rw [← HX.out]
    clear HX
    generalize w2.alloc (.cells #[.int .i64 size, .int .i64 0, .slice none 0 0] 45) = w3 at B0 ⊢
    go_loopw [5, 8] (fun dv i wr => ∃ (j d : Nat) (A A' : Option Addr) (c c' : Nat), j ≤ L.length ∧ i = .int .i64 j ∧ dv = .pointer (some ⟨d, 0, none⟩) ∧ Both w d x A A' c c' (run ⟨size, 0, []⟩ (L.take j)) wr) (fun _ i _ => L.length - (intOf i).toNat)
    case atStart => exact ⟨0, d, none, none, 0, 0, Nat.zero_le _, rfl, rfl, B0⟩
    case round =>
      clear B0 hdw HD
      obtain ⟨j, d, A1, A2, c1, c2, hj, rfl, rfl, P⟩ := hrel
      by_cases hlt : j < L.length
      · obtain ⟨F0, F1, F2, F3⟩ := run_start (L := L.take j) z0 z1 (Nat.le_trans (total_le j) hT)
        have G := run_start (L := L.take (j + 1)) z0 z1 (Nat.le_trans (total_le (j + 1)) hT)
        have hrun := Lib.hid (run_snoc (S := ⟨size, 0, []⟩) hlt)
        rw [hrun.out] at G
        obtain ⟨ad, A3, c3, hAd, hblk, hc0, hc1, hc2, hby, hrm⟩ := ha.at_ j hlt
        subst hAd
        have KS := Lib.hid (show ∀ w', Below w.heap.size w w' → w'.cell? (ad.add (j * 3)) = some (.int .i64 L[j].k) ∧ w'.cell? ⟨(ad.add (j * 3)).block, (ad.add (j * 3)).off + 1, none⟩ = some (.int .i64 L[j].n) ∧ w'.cell? ⟨(ad.add (j * 3)).block, (ad.add (j * 3)).off + 2, none⟩ = some (.slice A3 L[j].b.length c3) from
          fun w' hb => ⟨(hb.cell (by omega)).trans hc0, (hb.cell (by show (ad.add (j * 3)).block < _; omega)).trans hc1, (hb.cell (by show (ad.add (j * 3)).block < _; omega)).trans hc2⟩)
        have KB := Lib.hid (show ∀ w', Below w.heap.size w w' → BytesAt w' B A3 L[j].b from fun w' hb => hby.below (hb.mono hB))
        clear hc0 hc1 hc2 hby hblk
        have fit := ha.fit L[j] (List.getElem_mem hlt)
        have tot := Nat.le_trans (total_one hlt) hT
        generalize run ⟨size, 0, []⟩ (L.take j) = S at *
        obtain ⟨r, s, l⟩ := S
        simp only at F0 F1 F2 F3
        have hmain : L[j].k < 0 ∨ (¬ L[j].k < 0 ∧ 5 < L[j].k) ∨ (¬ L[j].k < 0 ∧ ¬ 5 < L[j].k) := by omega
        rcases hmain with q1 | ⟨q1, q2⟩ | ⟨q1, q2⟩
        · have hc0 := (KS.out _ P.bel).1
          go_wp2_with fail
          refine (copy_disk (show DiskAt wr d r s A1 c1 l from P.pd) (by omega)).mono ?_
          rintro e w5 ⟨d5, A5, c5, rfl, D5, g5, hn5, hf5⟩
          have P5 := P.quiet g5
          have hne : d ≠ d5 := by have := DiskAt.lt P.pd; omega
          have N5 : Both w d5 x A5 A2 c5 c2 ⟨r, s, l⟩ w5 := ⟨D5, P5.px, P5.bel, by have := P.bel.size; omega, P5.lx⟩
          have O5 : DiskAt w5 d r s A1 c1 l := P5.pd
          have hld := P.ld
          clear P P5 g5 D5 hf5 hn5 hc0
          have K := append_some (O5.quiet (alloc_grown w5 (.cells #[.int .u8 9] 5))) (lit_bytes w5 #[.int .u8 9] [9] rfl) (by simp) (lit_room _ 1 (by simp [maxLen])) (by simp [Small]) F3 (by simp) F0 F1
          have O5' := O5.quiet (alloc_grown w5 (.cells #[.int .u8 9] 5))
          have N6 := N5.quiet (alloc_grown w5 (.cells #[.int .u8 9] 5))
          clear N5 O5
          go_wp2_with fail
          refine K.mono ?_
          clear K
          rintro e w6 ⟨A6, c6, X, v6, rfl, O6, g6, hX1, hX2⟩
          have N7 := N6.other O5' hne hld g6
          have K := crash_any (s := s) O6 0 (by omega) (by omega) (by omega) (by omega)
          clear N6 O5' g6
          go_wp2_with fail
          refine K.mono ?_
          clear K
          rintro e w7 ⟨A7, c7, rfl, O7, g7⟩
          have N8 := N7.other O6 hne hld g7
          clear N7 O6 g7
          have K := swap_yes (k := []) (A2 := none) (c2 := 0) (B := 0) O7 Reads.none_ ⟨Nat.le_refl _, by simp, fun _ => rfl⟩ (by simp [Small]) (by simp) (by simpa using F0)
          go_wp2_with fail
          refine K.mono ?_
          clear K
          rintro e w8 ⟨A8, c8, rfl, O8, g8⟩
          have P9 := N8.other O7 hne hld g8
          clear N8 O7 g8 O8 hld hne
          have hc2 := (KS.out _ P9.bel).2.2
          go_wp2_with fail
          clear hc2
          refine (copy_any A3 c3 _ L[j].b _ (KB.out _ P9.bel) (by omega)).mono ?_
          rintro e w10 ⟨A10, c10, rfl, O10, b10⟩
          have R10 := (O10.file (DiskAt.lt P9.pd)).2.2
          have hd10 := DiskAt.lt P9.pd
          have hx10 := Ref.DiskAt.lt P9.px
          have ho1 := fun ad e => row_lt (P9.pd.off ad e)
          have ho2 := fun ad e => row_lt (P9.px.off ad e)
          have hW9 := P9.bel.size
          have P11 := (P9.below b10).quiet (drew_one w10)
          have O11 := O10.grown (drew_one w10) (by cases h : (Value.slice A10 L[j].b.length c10).ownBlock <;> simp)
          have hN0 := World.ownsRow.lt O10
          generalize hWX : w8.heap.size = W10 at *
          clear P9 b10 O10
          have hb11 := P11.bel
          have FS : Fine ⟨r, s, l⟩ 400000 := ⟨F0, F1, F2, by show l.length ≤ _; omega⟩
          have K1 := does_new L[j] P11.pd FS O11.reads (Nat.le_refl _) R10 fit.1 (by omega) fit.2.1 fit.2.2
          have K2 := fun w (X : Ref.DiskIs w x A2 c2 ⟨r, s, l⟩) (hBw : B ≤ w.heap.size) (hby : BytesAt w B A3 L[j].b) => Ref.want_new L[j] X FS hby hBw hrm fit.1 (by omega) fit.2.1 fit.2.2
          generalize hst : step ⟨r, s, l⟩ L[j] = st at *
          obtain ⟨T, t⟩ := st
          have hc0 := KS.out _ hb11
          obtain ⟨hc0, hc1, hc2⟩ := hc0
          have hj0 : (0 : Int) ≤ (j : Int) := by omega
          have hj1 : (j : Int) < (L.length : Int) := by omega
          go_wp2_with fail
          go_region_held3 (fun w' => w'.cell? (ad.add (j * 3)) = some (.int .i64 L[j].k) ∧ w'.cell? ⟨(ad.add (j * 3)).block, (ad.add (j * 3)).off + 1, none⟩ = some (.int .i64 L[j].n) ∧ w'.cell? ⟨(ad.add (j * 3)).block, (ad.add (j * 3)).off + 2, none⟩ = some (.slice A3 L[j].b.length c3)) (first | exact KS.out _ (by assumption) | go_keep) (first
            | (go_at_call 24; refine K1.mono ?_; rintro e w11 ⟨A11, c11, rfl, D11, g11, nw11⟩; have X11 := Ref.DiskAt.besideD P11.px P11.pd g11; have hb12 := hb11.grown g11 hb11.size (fun k hk => by injection hk with hk; have := P11.ld; omega); have O12 := O11.grown g11 (O11.off hd10))
            | (go_at_call 25; refine (K2 _ X11 (Nat.le_trans hB hb12.size) (KB.out _ hb12)).mono ?_; rintro e w12 ⟨A12, c12, rfl, X12, g12, nw12⟩; have D12 := Ref.DiskAt.besideR X11 D11 g12; have hb13 := hb12.grown g12 hb12.size (fun k hk => by injection hk with hk; have := P11.lx; omega); have O13 := O12.grown g12 (O12.off hx10))
            | (go_at_call 13; refine (bytes_any A10 A3 c10 c3 _ _ L[j].b L[j].b _ O13.reads (KB.out _ hb13) fit.1 fit.1).mono ?_; rintro e w13 ⟨rfl, rfl⟩; rw [decide_eq_true rfl]))
          have P13 : Both w d5 x A11 A12 c11 c12 T w12 := ⟨D12, X12, hb13, P11.ld, P11.lx⟩
          have hN : ∀ g, (Value.slice A10 L[j].b.length c10).ownBlock = some g → (∀ ad, A11 = some ad → ad.block ≠ g) ∧ (∀ ad, A12 = some ad → ad.block ≠ g) ∧ w.heap.size ≤ g := by
            intro g hg
            have h0 := hN0 g hg
            have h1 := g11.size
            refine ⟨fun ad e => ?_, fun ad e => ?_, by omega⟩
            · rcases nw11 with h | h
              · have := ho1 ad (by rw [← h]; exact e)
                omega
              · have h2 : w10.heap.size ≤ ad.block := h ad e
                omega
            · rcases nw12 with h | h
              · have := ho2 ad (by rw [← h]; exact e)
                omega
              · have h2 := h ad e
                have h3 : w10.heap.size ≤ w11.heap.size := h1
                omega
          have HNN := Lib.hid hN
          have hOr : w12.ownsRow W10 5 1 (.slice A10 L[j].b.length c10) L[j].b.length (bys L[j].b) := O13
          have hKK := R10.le
          have hKM := R10.max
          unfold maxLen at hKM
          clear hst hN hN0 ho1 ho2 nw11 nw12 g11 g12 X11 D11 O11 O12 O13 D12 X12 hb11 hb12 hb13 P11 K1 K2 hc0 hc1 hc2 hd10 hx10 hW9
          go_wp2_with fail
          go_loopw [11] (fun kv wr => ∃ (k : Nat) (xs : List Value), k ≤ L[j].b.length ∧ kv = .int .i64 k ∧ wr.ownsRow W10 5 1 (.slice A10 L[j].b.length c10) L[j].b.length xs ∧ (∀ u ∈ xs, ∃ z : Int, u = .int .u8 z) ∧ Both w d5 x A11 A12 c11 c12 T wr) (fun kv _ => L[j].b.length - (intOf kv).toNat)
          case atStart => exact ⟨0, _, Nat.zero_le _, rfl, hOr, bys_int _, P13⟩
          case round =>
            clear hOr P13
            obtain ⟨k, xs, hk, rfl, hO, hxs, P14⟩ := hrel
            by_cases hkl : k < L[j].b.length
            · have hlx := hO.1
              rcases hO.2 with ⟨e, hn⟩ | ⟨g, cp, cur, e, hbase, hg, _⟩
              · omega
              · injection e with e1 e2 e3
                subst e1 e3
                have hxk : k < xs.length := by omega
                obtain ⟨z, hz⟩ := hxs xs[k] (List.getElem_mem hxk)
                have hcell : wr.cell? ⟨g, k, none⟩ = some (.int .u8 z) := by rw [World.ownsRow.cellAt hO k (by omega), List.getElem?_eq_getElem hxk, hz]
                have hfz := World.ownsRow.frozenAt hO k
                have st := Lib.hid (fun u => World.ownsRow.stored hO k u)
                obtain ⟨n1, n2, n3⟩ := HNN.out g rfl
                have P15 := Lib.hid (fun u => P14.row hg n1 n2 n3 (st.out u).2)
                have hset : Hid (∀ y, ∀ u ∈ xs.set k (.int .u8 y), ∃ z : Int, u = .int .u8 z) := Lib.hid (fun y u hu => (List.mem_or_eq_of_mem_set hu).elim (hxs u) (fun e => ⟨_, e⟩))
                have hk0 : (0 : Int) ≤ (k : Int) := by omega
                have hk1 : (k : Int) < (L[j].b.length : Int) := by omega
                clear hxs hO hz hg n1 n2 P14 hlx
                go_wp2_with fail
                go_roundw
                case rel => exact ⟨k + 1, _, by omega, by go_num, (st.out _).1, hset.out _, P15.out _⟩
                case measure => simp [intOf]; omega
            · obtain rfl : k = L[j].b.length := by omega
              obtain ⟨r2, s2, l2⟩ := T
              have hl2b := G.l
              simp only at hl2b
              have P16 := P14.quiet (drew_one wr)
              have xc0 : wr.cell? ⟨x, 0, none⟩ = some (.int .i64 r2) := Ref.DiskAt.cell0 P14.px
              have xc1 : wr.cell? ⟨x, 1, none⟩ = some (.int .i64 s2) := Ref.DiskAt.cell1 P14.px
              have xc2 : wr.cell? ⟨x, 2, none⟩ = some (.slice A12 l2.length c12) := Ref.DiskAt.cell2 P14.px
              clear P14 hO hxs
              go_wp2_with fail
              go_region_held3 (fun w' => w'.cell? ⟨x, 0, none⟩ = some (.int .i64 r2) ∧ w'.cell? ⟨x, 1, none⟩ = some (.int .i64 s2) ∧ w'.cell? ⟨x, 2, none⟩ = some (.slice A12 l2.length c12)) (first | exact ⟨Ref.DiskAt.cell0 (by assumption), Ref.DiskAt.cell1 (by assumption), Ref.DiskAt.cell2 (by assumption)⟩ | go_keep) (first
                | (go_at_call 10; refine (bytes_of (show DiskAt _ d5 r2 s2 A11 c11 l2 from P16.pd) (by omega)).mono ?_; rintro e w20 ⟨A20, c20, rfl, O20, b20⟩; have P20 := P16.below b20; have X20 : Ref.DiskAt w20 x r2 s2 A12 c12 l2 := P20.px; have D20 : DiskAt w20 d5 r2 s2 A11 c11 l2 := P20.pd)
                | (go_at_call 13; refine (bytes_any A20 A12 c20 c12 _ _ l2 l2 _ O20.reads X20.row D20.small X20.small).mono ?_; rintro e w21 ⟨rfl, rfl⟩; rw [decide_eq_true rfl])
                | (go_at_call 11; refine (synced_any D20).mono ?_; rintro e w21 ⟨rfl, rfl⟩)
                | (go_at_call 14; refine (room_any D20).mono ?_; rintro e w21 ⟨rfl, rfl⟩))
              clear xc0 xc1 xc2 P16 X20 D20 O20 b20
              go_wp2_with fail
              go_roundw
              case rel => exact ⟨j + 1, d5, A11, A12, c11, c12, by omega, by go_num, rfl, by rw [hrun.out]; exact P20⟩
              case measure => simp [intOf]; omega
        · have hc0 := (KS.out _ P.bel).1
          go_wp2_with fail
          refine (copy_disk (show DiskAt wr d r s A1 c1 l from P.pd) (by omega)).mono ?_
          rintro e w5 ⟨d5, A5, c5, rfl, D5, g5, hn5, hf5⟩
          have P5 := P.quiet g5
          have hne : d ≠ d5 := by have := DiskAt.lt P.pd; omega
          have N5 : Both w d5 x A5 A2 c5 c2 ⟨r, s, l⟩ w5 := ⟨D5, P5.px, P5.bel, by have := P.bel.size; omega, P5.lx⟩
          have O5 : DiskAt w5 d r s A1 c1 l := P5.pd
          have hld := P.ld
          clear P P5 g5 D5 hf5 hn5 hc0
          have K := append_some (O5.quiet (alloc_grown w5 (.cells #[.int .u8 9] 5))) (lit_bytes w5 #[.int .u8 9] [9] rfl) (by simp) (lit_room _ 1 (by simp [maxLen])) (by simp [Small]) F3 (by simp) F0 F1
          have O5' := O5.quiet (alloc_grown w5 (.cells #[.int .u8 9] 5))
          have N6 := N5.quiet (alloc_grown w5 (.cells #[.int .u8 9] 5))
          clear N5 O5
          go_wp2_with fail
          refine K.mono ?_
          clear K
          rintro e w6 ⟨A6, c6, X, v6, rfl, O6, g6, hX1, hX2⟩
          have N7 := N6.other O5' hne hld g6
          have K := crash_any (s := s) O6 0 (by omega) (by omega) (by omega) (by omega)
          clear N6 O5' g6
          go_wp2_with fail
          refine K.mono ?_
          clear K
          rintro e w7 ⟨A7, c7, rfl, O7, g7⟩
          have N8 := N7.other O6 hne hld g7
          clear N7 O6 g7
          have K := swap_yes (k := []) (A2 := none) (c2 := 0) (B := 0) O7 Reads.none_ ⟨Nat.le_refl _, by simp, fun _ => rfl⟩ (by simp [Small]) (by simp) (by simpa using F0)
          go_wp2_with fail
          refine K.mono ?_
          clear K
          rintro e w8 ⟨A8, c8, rfl, O8, g8⟩
          have P9 := N8.other O7 hne hld g8
          clear N8 O7 g8 O8 hld hne
          have hc2 := (KS.out _ P9.bel).2.2
          go_wp2_with fail
          clear hc2
          refine (copy_any A3 c3 _ L[j].b _ (KB.out _ P9.bel) (by omega)).mono ?_
          rintro e w10 ⟨A10, c10, rfl, O10, b10⟩
          have R10 := (O10.file (DiskAt.lt P9.pd)).2.2
          have hd10 := DiskAt.lt P9.pd
          have hx10 := Ref.DiskAt.lt P9.px
          have ho1 := fun ad e => row_lt (P9.pd.off ad e)
          have ho2 := fun ad e => row_lt (P9.px.off ad e)
          have hW9 := P9.bel.size
          have P11 := (P9.below b10).quiet (drew_one w10)
          have O11 := O10.grown (drew_one w10) (by cases h : (Value.slice A10 L[j].b.length c10).ownBlock <;> simp)
          have hN0 := World.ownsRow.lt O10
          generalize hWX : w8.heap.size = W10 at *
          clear P9 b10 O10
          have hb11 := P11.bel
          have FS : Fine ⟨r, s, l⟩ 400000 := ⟨F0, F1, F2, by show l.length ≤ _; omega⟩
          have K1 := does_new L[j] P11.pd FS O11.reads (Nat.le_refl _) R10 fit.1 (by omega) fit.2.1 fit.2.2
          have K2 := fun w (X : Ref.DiskIs w x A2 c2 ⟨r, s, l⟩) (hBw : B ≤ w.heap.size) (hby : BytesAt w B A3 L[j].b) => Ref.want_new L[j] X FS hby hBw hrm fit.1 (by omega) fit.2.1 fit.2.2
          generalize hst : step ⟨r, s, l⟩ L[j] = st at *
          obtain ⟨T, t⟩ := st
          have hc0 := KS.out _ hb11
          obtain ⟨hc0, hc1, hc2⟩ := hc0
          have hj0 : (0 : Int) ≤ (j : Int) := by omega
          have hj1 : (j : Int) < (L.length : Int) := by omega
          go_wp2_with fail
          go_region_held3 (fun w' => w'.cell? (ad.add (j * 3)) = some (.int .i64 L[j].k) ∧ w'.cell? ⟨(ad.add (j * 3)).block, (ad.add (j * 3)).off + 1, none⟩ = some (.int .i64 L[j].n) ∧ w'.cell? ⟨(ad.add (j * 3)).block, (ad.add (j * 3)).off + 2, none⟩ = some (.slice A3 L[j].b.length c3)) (first | exact KS.out _ (by assumption) | go_keep) (first
            | (go_at_call 24; refine K1.mono ?_; rintro e w11 ⟨A11, c11, rfl, D11, g11, nw11⟩; have X11 := Ref.DiskAt.besideD P11.px P11.pd g11; have hb12 := hb11.grown g11 hb11.size (fun k hk => by injection hk with hk; have := P11.ld; omega); have O12 := O11.grown g11 (O11.off hd10))
            | (go_at_call 25; refine (K2 _ X11 (Nat.le_trans hB hb12.size) (KB.out _ hb12)).mono ?_; rintro e w12 ⟨A12, c12, rfl, X12, g12, nw12⟩; have D12 := Ref.DiskAt.besideR X11 D11 g12; have hb13 := hb12.grown g12 hb12.size (fun k hk => by injection hk with hk; have := P11.lx; omega); have O13 := O12.grown g12 (O12.off hx10))
            | (go_at_call 13; refine (bytes_any A10 A3 c10 c3 _ _ L[j].b L[j].b _ O13.reads (KB.out _ hb13) fit.1 fit.1).mono ?_; rintro e w13 ⟨rfl, rfl⟩; rw [decide_eq_true rfl]))
          have P13 : Both w d5 x A11 A12 c11 c12 T w12 := ⟨D12, X12, hb13, P11.ld, P11.lx⟩
          have hN : ∀ g, (Value.slice A10 L[j].b.length c10).ownBlock = some g → (∀ ad, A11 = some ad → ad.block ≠ g) ∧ (∀ ad, A12 = some ad → ad.block ≠ g) ∧ w.heap.size ≤ g := by
            intro g hg
            have h0 := hN0 g hg
            have h1 := g11.size
            refine ⟨fun ad e => ?_, fun ad e => ?_, by omega⟩
            · rcases nw11 with h | h
              · have := ho1 ad (by rw [← h]; exact e)
                omega
              · have h2 : w10.heap.size ≤ ad.block := h ad e
                omega
            · rcases nw12 with h | h
              · have := ho2 ad (by rw [← h]; exact e)
                omega
              · have h2 := h ad e
                have h3 : w10.heap.size ≤ w11.heap.size := h1
                omega
          have HNN := Lib.hid hN
          have hOr : w12.ownsRow W10 5 1 (.slice A10 L[j].b.length c10) L[j].b.length (bys L[j].b) := O13
          have hKK := R10.le
          have hKM := R10.max
          unfold maxLen at hKM
          clear hst hN hN0 ho1 ho2 nw11 nw12 g11 g12 X11 D11 O11 O12 O13 D12 X12 hb11 hb12 hb13 P11 K1 K2 hc0 hc1 hc2 hd10 hx10 hW9
          go_wp2_with fail
          go_loopw [11] (fun kv wr => ∃ (k : Nat) (xs : List Value), k ≤ L[j].b.length ∧ kv = .int .i64 k ∧ wr.ownsRow W10 5 1 (.slice A10 L[j].b.length c10) L[j].b.length xs ∧ (∀ u ∈ xs, ∃ z : Int, u = .int .u8 z) ∧ Both w d5 x A11 A12 c11 c12 T wr) (fun kv _ => L[j].b.length - (intOf kv).toNat)
          case atStart => exact ⟨0, _, Nat.zero_le _, rfl, hOr, bys_int _, P13⟩
          case round =>
            clear hOr P13
            obtain ⟨k, xs, hk, rfl, hO, hxs, P14⟩ := hrel
            by_cases hkl : k < L[j].b.length
            · have hlx := hO.1
              rcases hO.2 with ⟨e, hn⟩ | ⟨g, cp, cur, e, hbase, hg, _⟩
              · omega
              · injection e with e1 e2 e3
                subst e1 e3
                have hxk : k < xs.length := by omega
                obtain ⟨z, hz⟩ := hxs xs[k] (List.getElem_mem hxk)
                have hcell : wr.cell? ⟨g, k, none⟩ = some (.int .u8 z) := by rw [World.ownsRow.cellAt hO k (by omega), List.getElem?_eq_getElem hxk, hz]
                have hfz := World.ownsRow.frozenAt hO k
                have st := Lib.hid (fun u => World.ownsRow.stored hO k u)
                obtain ⟨n1, n2, n3⟩ := HNN.out g rfl
                have P15 := Lib.hid (fun u => P14.row hg n1 n2 n3 (st.out u).2)
                have hset : Hid (∀ y, ∀ u ∈ xs.set k (.int .u8 y), ∃ z : Int, u = .int .u8 z) := Lib.hid (fun y u hu => (List.mem_or_eq_of_mem_set hu).elim (hxs u) (fun e => ⟨_, e⟩))
                have hk0 : (0 : Int) ≤ (k : Int) := by omega
                have hk1 : (k : Int) < (L[j].b.length : Int) := by omega
                clear hxs hO hz hg n1 n2 P14 hlx
                go_wp2_with fail
                go_roundw
                case rel => exact ⟨k + 1, _, by omega, by go_num, (st.out _).1, hset.out _, P15.out _⟩
                case measure => simp [intOf]; omega
            · obtain rfl : k = L[j].b.length := by omega
              obtain ⟨r2, s2, l2⟩ := T
              have hl2b := G.l
              simp only at hl2b
              have P16 := P14.quiet (drew_one wr)
              have xc0 : wr.cell? ⟨x, 0, none⟩ = some (.int .i64 r2) := Ref.DiskAt.cell0 P14.px
              have xc1 : wr.cell? ⟨x, 1, none⟩ = some (.int .i64 s2) := Ref.DiskAt.cell1 P14.px
              have xc2 : wr.cell? ⟨x, 2, none⟩ = some (.slice A12 l2.length c12) := Ref.DiskAt.cell2 P14.px
              clear P14 hO hxs
              go_wp2_with fail
              go_region_held3 (fun w' => w'.cell? ⟨x, 0, none⟩ = some (.int .i64 r2) ∧ w'.cell? ⟨x, 1, none⟩ = some (.int .i64 s2) ∧ w'.cell? ⟨x, 2, none⟩ = some (.slice A12 l2.length c12)) (first | exact ⟨Ref.DiskAt.cell0 (by assumption), Ref.DiskAt.cell1 (by assumption), Ref.DiskAt.cell2 (by assumption)⟩ | go_keep) (first
                | (go_at_call 10; refine (bytes_of (show DiskAt _ d5 r2 s2 A11 c11 l2 from P16.pd) (by omega)).mono ?_; rintro e w20 ⟨A20, c20, rfl, O20, b20⟩; have P20 := P16.below b20; have X20 : Ref.DiskAt w20 x r2 s2 A12 c12 l2 := P20.px; have D20 : DiskAt w20 d5 r2 s2 A11 c11 l2 := P20.pd)
                | (go_at_call 13; refine (bytes_any A20 A12 c20 c12 _ _ l2 l2 _ O20.reads X20.row D20.small X20.small).mono ?_; rintro e w21 ⟨rfl, rfl⟩; rw [decide_eq_true rfl])
                | (go_at_call 11; refine (synced_any D20).mono ?_; rintro e w21 ⟨rfl, rfl⟩)
                | (go_at_call 14; refine (room_any D20).mono ?_; rintro e w21 ⟨rfl, rfl⟩))
              clear xc0 xc1 xc2 P16 X20 D20 O20 b20
              go_wp2_with fail
              go_roundw
              case rel => exact ⟨j + 1, d5, A11, A12, c11, c12, by omega, by go_num, rfl, by rw [hrun.out]; exact P20⟩
              case measure => simp [intOf]; omega
        · have P9 := P
          clear P
          have hc0 := (KS.out _ P9.bel).1
          have hc2 := (KS.out _ P9.bel).2.2
          go_wp2_with fail
          clear hc0
          clear hc2
          refine (copy_any A3 c3 _ L[j].b _ (KB.out _ P9.bel) (by omega)).mono ?_
          rintro e w10 ⟨A10, c10, rfl, O10, b10⟩
          have R10 := (O10.file (DiskAt.lt P9.pd)).2.2
          have hd10 := DiskAt.lt P9.pd
          have hx10 := Ref.DiskAt.lt P9.px
          have ho1 := fun ad e => row_lt (P9.pd.off ad e)
          have ho2 := fun ad e => row_lt (P9.px.off ad e)
          have hW9 := P9.bel.size
          have P11 := (P9.below b10).quiet (drew_one w10)
          have O11 := O10.grown (drew_one w10) (by cases h : (Value.slice A10 L[j].b.length c10).ownBlock <;> simp)
          have hN0 := World.ownsRow.lt O10
          generalize hWX : wr.heap.size = W10 at *
          clear P9 b10 O10
          have hb11 := P11.bel
          have FS : Fine ⟨r, s, l⟩ 400000 := ⟨F0, F1, F2, by show l.length ≤ _; omega⟩
          have K1 := does_new L[j] P11.pd FS O11.reads (Nat.le_refl _) R10 fit.1 (by omega) fit.2.1 fit.2.2
          have K2 := fun w (X : Ref.DiskIs w x A2 c2 ⟨r, s, l⟩) (hBw : B ≤ w.heap.size) (hby : BytesAt w B A3 L[j].b) => Ref.want_new L[j] X FS hby hBw hrm fit.1 (by omega) fit.2.1 fit.2.2
          generalize hst : step ⟨r, s, l⟩ L[j] = st at *
          obtain ⟨T, t⟩ := st
          have hc0 := KS.out _ hb11
          obtain ⟨hc0, hc1, hc2⟩ := hc0
          have hj0 : (0 : Int) ≤ (j : Int) := by omega
          have hj1 : (j : Int) < (L.length : Int) := by omega
          go_wp2_with fail
          go_region_held3 (fun w' => w'.cell? (ad.add (j * 3)) = some (.int .i64 L[j].k) ∧ w'.cell? ⟨(ad.add (j * 3)).block, (ad.add (j * 3)).off + 1, none⟩ = some (.int .i64 L[j].n) ∧ w'.cell? ⟨(ad.add (j * 3)).block, (ad.add (j * 3)).off + 2, none⟩ = some (.slice A3 L[j].b.length c3)) (first | exact KS.out _ (by assumption) | go_keep) (first
            | (go_at_call 24; refine K1.mono ?_; rintro e w11 ⟨A11, c11, rfl, D11, g11, nw11⟩; have X11 := Ref.DiskAt.besideD P11.px P11.pd g11; have hb12 := hb11.grown g11 hb11.size (fun k hk => by injection hk with hk; have := P11.ld; omega); have O12 := O11.grown g11 (O11.off hd10))
            | (go_at_call 25; refine (K2 _ X11 (Nat.le_trans hB hb12.size) (KB.out _ hb12)).mono ?_; rintro e w12 ⟨A12, c12, rfl, X12, g12, nw12⟩; have D12 := Ref.DiskAt.besideR X11 D11 g12; have hb13 := hb12.grown g12 hb12.size (fun k hk => by injection hk with hk; have := P11.lx; omega); have O13 := O12.grown g12 (O12.off hx10))
            | (go_at_call 13; refine (bytes_any A10 A3 c10 c3 _ _ L[j].b L[j].b _ O13.reads (KB.out _ hb13) fit.1 fit.1).mono ?_; rintro e w13 ⟨rfl, rfl⟩; rw [decide_eq_true rfl]))
          have P13 : Both w d x A11 A12 c11 c12 T w12 := ⟨D12, X12, hb13, P11.ld, P11.lx⟩
          have hN : ∀ g, (Value.slice A10 L[j].b.length c10).ownBlock = some g → (∀ ad, A11 = some ad → ad.block ≠ g) ∧ (∀ ad, A12 = some ad → ad.block ≠ g) ∧ w.heap.size ≤ g := by
            intro g hg
            have h0 := hN0 g hg
            have h1 := g11.size
            refine ⟨fun ad e => ?_, fun ad e => ?_, by omega⟩
            · rcases nw11 with h | h
              · have := ho1 ad (by rw [← h]; exact e)
                omega
              · have h2 : w10.heap.size ≤ ad.block := h ad e
                omega
            · rcases nw12 with h | h
              · have := ho2 ad (by rw [← h]; exact e)
                omega
              · have h2 := h ad e
                have h3 : w10.heap.size ≤ w11.heap.size := h1
                omega
          have HNN := Lib.hid hN
          have hOr : w12.ownsRow W10 5 1 (.slice A10 L[j].b.length c10) L[j].b.length (bys L[j].b) := O13
          have hKK := R10.le
          have hKM := R10.max
          unfold maxLen at hKM
          clear hst hN hN0 ho1 ho2 nw11 nw12 g11 g12 X11 D11 O11 O12 O13 D12 X12 hb11 hb12 hb13 P11 K1 K2 hc0 hc1 hc2 hd10 hx10 hW9
          go_wp2_with fail
          go_loopw [11] (fun kv wr => ∃ (k : Nat) (xs : List Value), k ≤ L[j].b.length ∧ kv = .int .i64 k ∧ wr.ownsRow W10 5 1 (.slice A10 L[j].b.length c10) L[j].b.length xs ∧ (∀ u ∈ xs, ∃ z : Int, u = .int .u8 z) ∧ Both w d x A11 A12 c11 c12 T wr) (fun kv _ => L[j].b.length - (intOf kv).toNat)
          case atStart => exact ⟨0, _, Nat.zero_le _, rfl, hOr, bys_int _, P13⟩
          case round =>
            clear hOr P13
            obtain ⟨k, xs, hk, rfl, hO, hxs, P14⟩ := hrel
            by_cases hkl : k < L[j].b.length
            · have hlx := hO.1
              rcases hO.2 with ⟨e, hn⟩ | ⟨g, cp, cur, e, hbase, hg, _⟩
              · omega
              · injection e with e1 e2 e3
                subst e1 e3
                have hxk : k < xs.length := by omega
                obtain ⟨z, hz⟩ := hxs xs[k] (List.getElem_mem hxk)
                have hcell : wr.cell? ⟨g, k, none⟩ = some (.int .u8 z) := by rw [World.ownsRow.cellAt hO k (by omega), List.getElem?_eq_getElem hxk, hz]
                have hfz := World.ownsRow.frozenAt hO k
                have st := Lib.hid (fun u => World.ownsRow.stored hO k u)
                obtain ⟨n1, n2, n3⟩ := HNN.out g rfl
                have P15 := Lib.hid (fun u => P14.row hg n1 n2 n3 (st.out u).2)
                have hset : Hid (∀ y, ∀ u ∈ xs.set k (.int .u8 y), ∃ z : Int, u = .int .u8 z) := Lib.hid (fun y u hu => (List.mem_or_eq_of_mem_set hu).elim (hxs u) (fun e => ⟨_, e⟩))
                have hk0 : (0 : Int) ≤ (k : Int) := by omega
                have hk1 : (k : Int) < (L[j].b.length : Int) := by omega
                clear hxs hO hz hg n1 n2 P14 hlx
                go_wp2_with fail
                go_roundw
                case rel => exact ⟨k + 1, _, by omega, by go_num, (st.out _).1, hset.out _, P15.out _⟩
                case measure => simp [intOf]; omega
            · obtain rfl : k = L[j].b.length := by omega
              obtain ⟨r2, s2, l2⟩ := T
              have hl2b := G.l
              simp only at hl2b
              have P16 := P14.quiet (drew_one wr)
              have xc0 : wr.cell? ⟨x, 0, none⟩ = some (.int .i64 r2) := Ref.DiskAt.cell0 P14.px
              have xc1 : wr.cell? ⟨x, 1, none⟩ = some (.int .i64 s2) := Ref.DiskAt.cell1 P14.px
              have xc2 : wr.cell? ⟨x, 2, none⟩ = some (.slice A12 l2.length c12) := Ref.DiskAt.cell2 P14.px
              clear P14 hO hxs
              go_wp2_with fail
              go_region_held3 (fun w' => w'.cell? ⟨x, 0, none⟩ = some (.int .i64 r2) ∧ w'.cell? ⟨x, 1, none⟩ = some (.int .i64 s2) ∧ w'.cell? ⟨x, 2, none⟩ = some (.slice A12 l2.length c12)) (first | exact ⟨Ref.DiskAt.cell0 (by assumption), Ref.DiskAt.cell1 (by assumption), Ref.DiskAt.cell2 (by assumption)⟩ | go_keep) (first
                | (go_at_call 10; refine (bytes_of (show DiskAt _ d r2 s2 A11 c11 l2 from P16.pd) (by omega)).mono ?_; rintro e w20 ⟨A20, c20, rfl, O20, b20⟩; have P20 := P16.below b20; have X20 : Ref.DiskAt w20 x r2 s2 A12 c12 l2 := P20.px; have D20 : DiskAt w20 d r2 s2 A11 c11 l2 := P20.pd)
                | (go_at_call 13; refine (bytes_any A20 A12 c20 c12 _ _ l2 l2 _ O20.reads X20.row D20.small X20.small).mono ?_; rintro e w21 ⟨rfl, rfl⟩; rw [decide_eq_true rfl])
                | (go_at_call 11; refine (synced_any D20).mono ?_; rintro e w21 ⟨rfl, rfl⟩)
                | (go_at_call 14; refine (room_any D20).mono ?_; rintro e w21 ⟨rfl, rfl⟩))
              clear xc0 xc1 xc2 P16 X20 D20 O20 b20
              go_wp2_with fail
              go_roundw
              case rel => exact ⟨j + 1, d, A11, A12, c11, c12, by omega, by go_num, rfl, by rw [hrun.out]; exact P20⟩
              case measure => simp [intOf]; omega
      · obtain rfl : j = L.length := by omega
        go_wp2_with fail
        refine (first_any _).mono ?_
        rintro e w3 ⟨rfl, b3⟩
        have b4 := P.bel.trans (b3.mono P.bel.size)
        clear P b3
        go_wp2_with fail
        go_ret
        exact ⟨rfl, b4⟩
end Go.Proofs.Ytelkllhibkefbaa
