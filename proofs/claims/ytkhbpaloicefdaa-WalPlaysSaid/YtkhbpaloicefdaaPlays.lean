/- WalPlays: the walk. -/
import Derived.Test.YtkhbpaloicefdaaPair
import Derived.Deep.RegionHeld3
import Derived.Deep.DrawnRows
namespace Go.Proofs.Ytkhbpaloicefdaa
open Go.RowKit
set_option linter.unusedVariables false
attribute [local go_sem ↓] Go.wp_at_zero Go.wp_at_succ
/-- The file behind an append. -/
def laid (r : Int) (l k : List Nat) : List Nat := if (k.length : Int) ≤ r - l.length then l ++ k else l
theorem laid_le (r : Int) (l k : List Nat) : (laid r l k).length ≤ l.length + k.length := by
  unfold laid
  split
  · rw [List.length_append]; omega
  · omega
section
variable {w w' : World} {W p d q x c c' cL cR : Nat} {S : Lg} {A A' AL AR : Option Addr} {xs ys : List Value}
theorem disk_add {r s : Int} {l : List Nat} (h : DiskAt w d r s A c l) {B : Nat} {A2 : Option Addr} {c2 : Nat} {k : List Nat} (hk : BytesAt w B A2 k) (hBw : B ≤ w.heap.size) (hr : Roomy A2 k.length c2) (hs : Small k) (hl : l.length ≤ 400000) (hl2 : k.length ≤ 400000) (h1 : 0 ≤ r) (h2 : r ≤ 1073741824) :
    Calls Try.prog 19 #[.pointer (some ⟨d, 0, none⟩), .slice A2 k.length c2] w fun e w' => ∃ A' c' z, e = .returned (.int .i64 z) ∧ DiskAt w' d r s A' c' (laid r l k) ∧ w.grownBy w' (some d) := by
  unfold laid
  split
  · rename_i hfit
    exact (append_yes h hk hBw hr hs hl hl2 h1 h2 hfit).mono fun e w' ⟨A', c', e1, e2, e3⟩ => ⟨A', c', _, e1, e2, e3⟩
  · rename_i hfit
    exact (append_no h (A2 := A2) (c2 := c2) (Nat.le_trans hr.le hr.max) hl h1 h2 hfit).mono fun e w' ⟨e1, e2, e3⟩ => ⟨A, c, _, e1, e2, grown_row e3⟩
theorem rdisk_add {r s : Int} {l : List Nat} (h : Ref.DiskAt w d r s A c l) {B : Nat} {A2 : Option Addr} {c2 : Nat} {k : List Nat} (hk : BytesAt w B A2 k) (hBw : B ≤ w.heap.size) (hr : Roomy A2 k.length c2) (hs : Small k) (hl : l.length ≤ 400000) (hl2 : k.length ≤ 400000) (h1 : 0 ≤ r) (h2 : r ≤ 1073741824) :
    Calls Try.prog 24 #[.pointer (some ⟨d, 0, none⟩), .slice A2 k.length c2] w fun e w' => ∃ A' c' z, e = .returned (.int .i64 z) ∧ Ref.DiskAt w' d r s A' c' (laid r l k) ∧ w.grownBy w' (some d) := by
  unfold laid
  split
  · rename_i hfit
    exact (Ref.append_yes h hk hBw hr hs hl hl2 h1 h2 hfit).mono fun e w' ⟨A', c', e1, e2, e3⟩ => ⟨A', c', _, e1, e2, e3⟩
  · rename_i hfit
    exact (Ref.append_no h (A2 := A2) (c2 := c2) (Nat.le_trans hr.le hr.max) hl h1 h2 hfit).mono fun e w' ⟨e1, e2, e3⟩ => ⟨A, c, _, e1, e2, grown_row e3⟩
/-- Both are opened: both are alike. -/
theorem pair_make {r s : Int} {l : List Nat} {A1 : Option Addr} {c1 : Nat} (P : LogAt w W p d S A c AL cL xs) (D : Ref.DiskAt w x r s A1 c1 l) (g : w.grownBy w' (some x)) (Q : Ref.LogAt w' W q x S A' c' AR cR ys) (hnew : ∀ g, (Value.slice AR S.R.length cR).ownBlock = some g → w.heap.size ≤ g) : Pair w' W p d q x S A c AL cL xs A' c' AR cR ys := by
  refine ⟨P.off g (offP_blk P D.blk (by decide) (by decide) (by decide) (by decide)), Q, ?_⟩
  cases e : (Value.slice AL S.R.length cL).ownBlock with
  | none => exact .inl rfl
  | some k =>
    refine .inr fun e2 => ?_
    have h1 := (World.ownsRow.lt P.list k e).2
    have h2 := hnew k e2.symm
    omega
/-- What a crash and an opening leave. -/
def crashL (S : Lg) (n : Int) : Lg := ⟨S.r, min (left_ S.s (joined S.R).length n) (scand ((joined S.R).take (left_ S.s (joined S.R).length n))).2, (scand ((joined S.R).take (left_ S.s (joined S.R).length n))).1⟩
theorem opened_fine {r : Int} {s N : Nat} {l : List Nat} (h0 : 0 ≤ r) (h1 : r ≤ 1073741824) (hl : l.length ≤ N) : Fine ⟨r, min s (scand l).2, (scand l).1⟩ N := by
  have hj : (joined (scand l).1).length = (scand l).2 := by rw [scand_take, List.length_take]; have := scand_le l; omega
  have hle := scand_le l
  exact ⟨h0, h1, by show min s (scand l).2 ≤ (joined (scand l).1).length; omega, by show (joined (scand l).1).length ≤ N; omega⟩
end
theorem decide_self (z : Int) : (z == z) = true := by simp
set_option maxRecDepth 100000 in
set_option maxHeartbeats 64000000 in
theorem plays_law (size : Int) (A : Option Addr) (c : Nat) (L : List WOp) (AF : Option Addr) (cF : Nat) (f : List Nat) (w : World) (ha : OpsAt w w.heap.size A L) (hl : L.length ≤ maxLen) (hf : BytesAt w w.heap.size AF f) (hfs : Small f) (hfr : Roomy AF f.length cF) (hz1 : -9223372036854775808 ≤ size) (hz2 : size ≤ 9223372036854775807) :
    Calls Try.prog 7 #[.slice AF f.length cF, .int .i64 size, .slice A L.length c] w fun e w' => e = .returned (.bool true) ∧ Below w.heap.size w w' := by
  have hl' := hl
  unfold maxLen at hl'
  have hfl : f.length ≤ 9223372036854775807 := Nat.le_trans hfr.le hfr.max
  by_cases hsz : 0 ≤ size ∧ size ≤ 1073741824
  case neg =>
    go_enter Try.func7, Try.ntmps7
    go_wp2_with fail
    refine (first_any _).mono ?_
    rintro e w1 ⟨rfl, b1⟩
    have hw1 := b1.size
    have K := new_no size hsz w1
    clear hsz
    go_wp2_with fail
    refine K.mono ?_
    rintro e w2 ⟨rfl, rfl⟩
    go_wp2_with fail
    refine (first_any _).mono ?_
    rintro e w3 ⟨rfl, b3⟩
    go_wp2_with fail
    go_ret
    exact ⟨rfl, b1.trans (b3.mono hw1)⟩
  case pos =>
    obtain ⟨z0, z1⟩ := hsz
    go_enter Try.func7, Try.ntmps7
    go_wp2_with fail
    refine (first_any _).mono ?_
    rintro e w1 ⟨rfl, b1⟩
    have hw1 := b1.size
    go_wp2_with fail
    refine (new_yes size z0 z1 _).mono ?_
    rintro e w2 ⟨rfl, rfl⟩
    have D1 : DiskAt _ w1.heap.size size ((0 : Nat) : Int) none 0 [] := DiskAt.new_ w1 size
    have b2 := b1.alloc hw1 (.cells #[.int .i64 size, .int .i64 0, .slice none 0 0] 62)
    generalize w1.alloc (.cells #[.int .i64 size, .int .i64 0, .slice none 0 0] 62) = w2 at D1 b2 ⊢
    obtain ⟨d, hd⟩ : ∃ d, d = w1.heap.size := ⟨_, rfl⟩
    rw [← hd] at D1 hw1 ⊢
    clear hd b1
    have hw2 := b2.size
    have hF := few_any A c _ L w2 (ha.below b2) hl
    go_wp2_with fail
    refine hF.mono ?_
    clear hF
    rintro e w3 ⟨t, rfl, rfl, ht⟩
    cases t with
    | false =>
      clear ht
      go_wp2_with fail
      refine (first_any _).mono ?_
      rintro e w3 ⟨rfl, b3⟩
      go_wp2_with fail
      go_ret
      exact ⟨rfl, b2.trans (b3.mono hw2)⟩
    | true =>
      obtain ⟨hl1, hT, hLs⟩ := ht rfl
      clear ht
      by_cases hbig : 20000 < f.length
      · go_wp2_with fail
        refine (first_any _).mono ?_
        rintro e w3 ⟨rfl, b3⟩
        go_wp2_with fail
        go_ret
        exact ⟨rfl, b2.trans (b3.mono hw2)⟩
      · have hf2 : f.length ≤ 20000 := by omega
        go_wp2_with fail
        have X1 : Ref.DiskAt _ w2.heap.size size ((0 : Nat) : Int) none 0 [] := Ref.DiskAt.new_ w2 size
        have D1a := D1.quiet (alloc_grown w2 (.cells #[.int .i64 size, .int .i64 0, .slice none 0 0] 52))
        have b2a := b2.alloc hw2 (.cells #[.int .i64 size, .int .i64 0, .slice none 0 0] 52)
        generalize w2.alloc (.cells #[.int .i64 size, .int .i64 0, .slice none 0 0] 52) = w3 at X1 D1a b2a ⊢
        obtain ⟨x, hx⟩ : ∃ x, x = w2.heap.size := ⟨_, rfl⟩
        rw [← hx] at X1 hw2 ⊢
        clear hx b2 D1
        have hw3 := b2a.size
        have K1 := disk_add D1a (hf.below b2a) hw3 hfr hfs (by simp) (by omega) z0 z1
        have hll := laid_le size [] f
        have hls : Small (laid size [] f) := by unfold laid; split; exact (show Small [] by simp [Small]).append hfs; simp [Small]
        obtain ⟨l0, hl0⟩ : ∃ l0, l0 = laid size [] f := ⟨_, rfl⟩
        rw [← hl0] at K1 hll hls
        have HL0 := Lib.hid hl0
        clear hl0
        have hll2 : l0.length ≤ 20000 := by simp at hll; omega
        clear hll
        refine K1.mono ?_
        rintro e w4 ⟨A4, c4, z4, rfl, D4, g4⟩
        have X4 := X1.besideD D1a g4
        have b4 := b2a.grown g4 hw3 (fun k e => by injection e with e; omega)
        have hw4 := b4.size
        have K2 := rdisk_add X4 (hf.below b4) hw4 hfr hfs (by simp) (by omega) z0 z1
        rw [← HL0.out] at K2
        clear K1 D1a X1 b2a g4
        go_wp2_with fail
        refine K2.mono ?_
        rintro e w5 ⟨A5, c5, z5, rfl, X5, g5⟩
        have D5 := Ref.DiskAt.besideR X4 D4 g5
        have b5 := b4.grown g5 hw4 (fun k e => by injection e with e; omega)
        have hw5 := b5.size
        have K3 := open_new D5 (Nat.zero_le _) (by omega)
        clear K2 X4 D4 b4 g5
        go_wp2_with fail
        refine K3.mono ?_
        rintro e w6 ⟨p6, A6, c6, AL6, cL6, xs6, rfl, hp6, hL6, g6, hn6⟩
        have P6 := hL6 w.heap.size hw5 hw1
        have X6 := X5.besideD D5 g6
        have b6 := b5.grown g6 hw5 (fun k e => by injection e with e; omega)
        have hw6 := b6.size
        have K4 := Ref.open_any X6 (Nat.zero_le _) (by omega)
        clear K3 X5 D5 b5 g6 hL6
        go_wp2_with fail
        refine K4.mono ?_
        rintro e w7 ⟨q7, A7, c7, AR7, cR7, ys7, rfl, hq7, hL7, g7, hn7⟩
        have Q7 := hL7 w.heap.size hw6 hw2
        have PR7 := pair_make P6 X6 g7 Q7 hn7
        have b7 := b6.grown g7 hw6 (fun k e => by injection e with e; omega)
        have hF7 : Fine ⟨size, min 0 (scand l0).2, (scand l0).1⟩ 20000 := opened_fine z0 z1 hll2
        clear K4 X6 P6 Q7 b6 g7 hL7 hn7 hn6
        generalize (⟨size, min 0 (scand l0).2, (scand l0).1⟩ : Lg) = S0 at PR7 hF7
        go_wp2_with fail
        go_loopw [10, 12, 14] (fun pv qv kv wr => ∃ (j p q : Nat) (S : Lg) (A : Option Addr) (c : Nat) (AL : Option Addr) (cL : Nat) (xs : List Value) (A' : Option Addr) (c' : Nat) (AR : Option Addr) (cR : Nat) (ys : List Value), j ≤ L.length ∧ pv = .pointer (some ⟨p, 0, none⟩) ∧ qv = .pointer (some ⟨q, 0, none⟩) ∧ kv = .int .i64 (j : Int) ∧ Pair wr w.heap.size p d q x S A c AL cL xs A' c' AR cR ys ∧ Fine S (21800 + weight (L.take j) + 6 * j) ∧ Below w.heap.size w wr) (fun _ _ kv _ => L.length - (intOf kv).toNat)
        case atStart => exact ⟨0, p6, q7, S0, A6, c6, AL6, cL6, xs6, A7, c7, AR7, cR7, ys7, Nat.zero_le _, rfl, rfl, rfl, PR7, hF7.more (by omega), b7⟩
        case round =>
          clear PR7 hF7 b7
          obtain ⟨j, p, q, S, A5, c5, AL5, cL5, xs5, A6', c6', AR6, cR6, ys6, hj, rfl, rfl, rfl, PR, hF, b⟩ := hrel
          have hw := b.size
          by_cases hlt : j < L.length
          · obtain ⟨ad, rfl, O⟩ := ha j hlt
            obtain ⟨A1, c1, p1, R1, rm⟩ := O.bs
            obtain ⟨A2, c2, p2, hps, hpl⟩ := O.rows
            have hk := (b.cell O.blk).trans O.k
            have hkn := (b.cell (by exact O.blk)).trans O.n
            have HCB := Lib.hid (fun (w' : World) (hb : Below w.heap.size w w') => (hb.cell (by exact O.blk)).trans p1)
            have HCL := Lib.hid (fun (w' : World) (hb : Below w.heap.size w w') => (hb.cell (by exact O.blk)).trans p2)
            have HCN := Lib.hid (fun (w' : World) (hb : Below w.heap.size w w') => (hb.cell (by exact O.blk)).trans O.n)
            have i0 : (0 : Int) ≤ (j : Int) := by omega
            have i1 : (j : Int) < (L.length : Int) := by omega
            have hws := weight_snoc hlt
            have hwl := weight_le (L := L) (j + 1)
            have hl3 := hLs _ (List.getElem_mem hlt)
            have hwt : L[j].b.length + total L[j].ls = wt L[j] := rfl
            have hFb : Fine S 300000 := hF.more (by omega)
            have osm := O.s
            have olo := O.lo
            have ohi := O.hi
            have PRd := PR.quiet (drew_one wr)
            have bd := b.grown (drew_one wr) hw (by simp)
            have hjr := hF.l
            by_cases k0 : L[j].k = 0
            · as_aux_lemma =>
                have hF2 : Fine (addL S L[j].b).1 (21800 + weight (L.take (j + 1)) + 6 * (j + 1)) := (addL_fine hF L[j].b).more (by omega)
                have K1 := log_add PRd.P hFb (R1.below bd) bd.size (fun ad e hb => by have := PRd.P.wd; omega) rm osm
                have K2' := Lib.hid (fun (wa : World) (Qa : Ref.LogAt wa w.heap.size q x S A6' c6' AR6 cR6 ys6) (ba : Below w.heap.size w wa) => Ref.log_add Qa hFb (R1.below ba) ba.size (fun ad e hb => by have := Qa.wd; omega) rm osm)
                generalize addL S L[j].b = Z at K1 K2' hF2
                obtain ⟨S1, z1'⟩ := Z
                dsimp only at K1 K2' hF2
                have HF2 := Lib.hid hF2
                clear hF2
                have hcw := HCB.out _ b
                clear hkn p1 p2 hws hwt PR
                rw [k0] at hk
                go_wp2_with fail
                go_region_held3 (fun w' => w'.cell? ⟨(ad.add (j * 4)).block, (ad.add (j * 4)).off + 2, none⟩ = some (.slice A1 L[j].b.length c1)) (first | exact HCB.out _ (by assumption) | go_keep) (first
                  | (go_at_call 12; refine K1.mono ?_; rintro e w6 ⟨A7, c7, AL7, cL7, xs7, rfl, P7, T7⟩; obtain ⟨Q7, sep7⟩ := keepR PRd.Q PRd.P PRd.sep T7; have b7 := bd.trans (T7.below bd.size PRd.P.wd PRd.P.wp PRd.P.lb); have K2 := K2'.out _ Q7 b7)
                  | (go_at_call 26; refine K2.mono ?_; rintro e w8 ⟨A8, c8, AR8, cR8, ys8, rfl, Q8, T8⟩; obtain ⟨P8, sep8⟩ := keepP P7 Q7 sep7 T8; have b8 := b7.trans (T8.below b7.size Q7.wd Q7.wp Q7.lb)))
                have PR8 : Pair w8 w.heap.size p d q x S1 A7 c7 AL7 cL7 xs7 A8 c8 AR8 cR8 ys8 := ⟨P8, Q8, sep8⟩
                have hFn := HF2.out
                clear K1 K2 K2' P7 Q7 sep7 T7 P8 Q8 sep8 T8 PRd bd b b7 HF2 O
                go_wp2_with fail
                have hFc := Lib.hid hFn
                have hjc := hFn.l
                have hRc := joined_len S1.R
                clear hFn
                have PRd := PR8.quiet (drew_one w8)
                have bd := b8.grown (drew_one w8) b8.size (by simp)
                have hQd := PRd.Q
                have hPd := PRd.P
                have hsmc := joined_small hPd.few
                have hfewc := hPd.few
                have KS := Lib.hid (fun (w' : World) (h : Ref.LogAt w' w.heap.size q x S1 A8 c8 AR8 cR8 ys8) => (show w'.cell? ⟨q, 1, none⟩ = some (.slice AR8 S1.R.length cR8) ∧ w'.cell? ⟨x, 2, none⟩ = some (.slice A8 (joined S1.R).length c8) ∧ w'.cell? ⟨x, 1, none⟩ = some (.int .i64 (S1.s : Int)) from ⟨h.cell1, h.disk.cell2, h.disk.cell1⟩))
                have C33 := log_disk hPd
                have K14 := log_records hPd (by omega)
                clear PR8 b8
                go_wp2_with fail
                go_region_held3 (fun w' => w'.cell? ⟨q, 1, none⟩ = some (.slice AR8 S1.R.length cR8) ∧ w'.cell? ⟨x, 2, none⟩ = some (.slice A8 (joined S1.R).length c8) ∧ w'.cell? ⟨x, 1, none⟩ = some (.int .i64 (S1.s : Int))) (first | exact KS.out _ (by assumption) | go_keep) (first
                  | (go_at_call 33; refine C33.mono ?_; rintro e wZ ⟨rfl, rfl⟩)
                  | (go_at_call 14; refine K14.mono ?_; rintro e wR ⟨A14, c14, y14, rfl, O14, R14, b14⟩; have PRr := PRd.quiet (below_quiet2 b14); have hQr := PRr.Q; have br := bd.trans (b14.mono bd.size); have K18 := lists_same A14 AR8 c14 cR8 _ _ S1.R wR (ListsAt.of_own O14 R14) (ListsAt.of_own hQr.list hQr.rows) (fun q hq => (hfewc q hq).1) (by omega))
                  | (go_at_call 18; refine K18.mono ?_; rintro e wL ⟨rfl, gL⟩; have PRl := PRr.quiet gL; have hQl := PRl.Q; have hPl := PRl.P; have bl := br.grown gL br.size (by simp); have C33 := log_disk hPl; have K20 := bytes_of hPl.disk (by omega))
                  | (go_at_call 20; refine K20.mono ?_; rintro e wB ⟨A20, c20, rfl, O20, b20⟩; have PRb := PRl.quiet (below_quiet2 b20); have hQb := PRb.Q; have hPb := PRb.P; have bb := bl.trans (b20.mono bl.size); have C33 := log_disk hPb; have K21 := bytes_same A20 A8 c20 c8 _ _ (joined S1.R) wB O20.reads hQb.disk.row hsmc; have K23 := synced_any hPb.disk)
                  | (go_at_call 21; refine K21.mono ?_; rintro e wC ⟨rfl, rfl⟩)
                  | (go_at_call 23; refine K23.mono ?_; rintro e wD ⟨rfl, rfl⟩))
                go_wp2_with fail
                go_roundw
                case rel => exact ⟨j + 1, p, q, S1, A7, c7, AL7, cL7, xs7, A8, c8, AR8, cR8, ys8, by omega, rfl, rfl, by go_num, PRb, hFc.out, bb⟩
                case measure => simp [intOf]; omega
            · by_cases k1 : L[j].k = 1
              · as_aux_lemma =>
                  have hF2 : Fine (syncL S) (21800 + weight (L.take (j + 1)) + 6 * (j + 1)) := (syncL_fine hF).more (by omega)
                  have K1 := log_sync PR.P
                  clear hkn p1 p2 hws hwt PRd bd
                  rw [k1] at hk
                  go_wp2_with fail
                  refine K1.mono ?_
                  rintro e w6 ⟨rfl, P7, g7⟩
                  obtain ⟨Q7, sep7⟩ := keepR PR.Q PR.P PR.sep (Trip.disk g7)
                  have b7 := b.grown g7 hw (fun k e => by injection e with e; omega)
                  have hqc := Q7.cell0
                  have K2 := Ref.sync_any Q7.disk
                  clear K1 PR b
                  go_wp2_with fail
                  refine K2.mono ?_
                  rintro e w8 ⟨rfl, X8, g8⟩
                  have Q8 := Q7.turn g8 (S' := syncL S) rfl X8
                  obtain ⟨P8, sep8⟩ := keepP P7 Q7 sep7 (Trip.disk g8)
                  have b8 := b7.grown g8 b7.size (fun k e => by injection e with e; omega)
                  have PR8 : Pair w8 w.heap.size p d q x (syncL S) A5 c5 AL5 cL5 xs5 A6' c6' AR6 cR6 ys6 := ⟨P8, Q8, sep8⟩
                  clear K2 P7 Q7 sep7 P8 Q8 sep8 X8 g7 g8 b7 hqc O
                  generalize syncL S = S1 at PR8 hF2
                  go_wp2_with fail
                  have hFc := Lib.hid hF2
                  have hjc := hF2.l
                  have hRc := joined_len S1.R
                  clear hF2
                  have PRd := PR8.quiet (drew_one w8)
                  have bd := b8.grown (drew_one w8) b8.size (by simp)
                  have hQd := PRd.Q
                  have hPd := PRd.P
                  have hsmc := joined_small hPd.few
                  have hfewc := hPd.few
                  have KS := Lib.hid (fun (w' : World) (h : Ref.LogAt w' w.heap.size q x S1 A6' c6' AR6 cR6 ys6) => (show w'.cell? ⟨q, 1, none⟩ = some (.slice AR6 S1.R.length cR6) ∧ w'.cell? ⟨x, 2, none⟩ = some (.slice A6' (joined S1.R).length c6') ∧ w'.cell? ⟨x, 1, none⟩ = some (.int .i64 (S1.s : Int)) from ⟨h.cell1, h.disk.cell2, h.disk.cell1⟩))
                  have C33 := log_disk hPd
                  have K14 := log_records hPd (by omega)
                  clear PR8 b8
                  go_wp2_with fail
                  go_region_held3 (fun w' => w'.cell? ⟨q, 1, none⟩ = some (.slice AR6 S1.R.length cR6) ∧ w'.cell? ⟨x, 2, none⟩ = some (.slice A6' (joined S1.R).length c6') ∧ w'.cell? ⟨x, 1, none⟩ = some (.int .i64 (S1.s : Int))) (first | exact KS.out _ (by assumption) | go_keep) (first
                    | (go_at_call 33; refine C33.mono ?_; rintro e wZ ⟨rfl, rfl⟩)
                    | (go_at_call 14; refine K14.mono ?_; rintro e wR ⟨A14, c14, y14, rfl, O14, R14, b14⟩; have PRr := PRd.quiet (below_quiet2 b14); have hQr := PRr.Q; have br := bd.trans (b14.mono bd.size); have K18 := lists_same A14 AR6 c14 cR6 _ _ S1.R wR (ListsAt.of_own O14 R14) (ListsAt.of_own hQr.list hQr.rows) (fun q hq => (hfewc q hq).1) (by omega))
                    | (go_at_call 18; refine K18.mono ?_; rintro e wL ⟨rfl, gL⟩; have PRl := PRr.quiet gL; have hQl := PRl.Q; have hPl := PRl.P; have bl := br.grown gL br.size (by simp); have C33 := log_disk hPl; have K20 := bytes_of hPl.disk (by omega))
                    | (go_at_call 20; refine K20.mono ?_; rintro e wB ⟨A20, c20, rfl, O20, b20⟩; have PRb := PRl.quiet (below_quiet2 b20); have hQb := PRb.Q; have hPb := PRb.P; have bb := bl.trans (b20.mono bl.size); have C33 := log_disk hPb; have K21 := bytes_same A20 A6' c20 c6' _ _ (joined S1.R) wB O20.reads hQb.disk.row hsmc; have K23 := synced_any hPb.disk)
                    | (go_at_call 21; refine K21.mono ?_; rintro e wC ⟨rfl, rfl⟩)
                    | (go_at_call 23; refine K23.mono ?_; rintro e wD ⟨rfl, rfl⟩))
                  go_wp2_with fail
                  go_roundw
                  case rel => exact ⟨j + 1, p, q, S1, A5, c5, AL5, cL5, xs5, A6', c6', AR6, cR6, ys6, by omega, rfl, rfl, by go_num, PRb, hFc.out, bb⟩
                  case measure => simp [intOf]; omega
              · by_cases k2 : L[j].k = 2
                · as_aux_lemma =>
                    have hF2 : Fine (putL S L[j].b).1 (21800 + weight (L.take (j + 1)) + 6 * (j + 1)) := (putL_fine hF L[j].b).more (by omega)
                    have K1 := log_put PRd.P hFb (R1.below bd) bd.size (fun ad e hb => by have := PRd.P.wd; omega) rm osm
                    have K2' := Lib.hid (fun (wa : World) (Qa : Ref.LogAt wa w.heap.size q x S A6' c6' AR6 cR6 ys6) (ba : Below w.heap.size w wa) => Ref.log_write Qa hFb (R1.below ba) ba.size (fun ad e hb => by have := Qa.wd; omega) rm osm)
                    generalize putL S L[j].b = Z at K1 K2' hF2
                    obtain ⟨S1, z1'⟩ := Z
                    dsimp only at K1 K2' hF2
                    have HF2 := Lib.hid hF2
                    clear hF2
                    have hcw := HCB.out _ b
                    clear hkn p1 p2 hws hwt PR
                    rw [k2] at hk
                    go_wp2_with fail
                    go_region_held3 (fun w' => w'.cell? ⟨(ad.add (j * 4)).block, (ad.add (j * 4)).off + 2, none⟩ = some (.slice A1 L[j].b.length c1)) (first | exact HCB.out _ (by assumption) | go_keep) (first
                      | (go_at_call 15; refine K1.mono ?_; rintro e w6 ⟨A7, c7, AL7, cL7, xs7, rfl, P7, T7⟩; obtain ⟨Q7, sep7⟩ := keepR PRd.Q PRd.P PRd.sep T7; have b7 := bd.trans (T7.below bd.size PRd.P.wd PRd.P.wp PRd.P.lb); have K2 := K2'.out _ Q7 b7)
                      | (go_at_call 28; refine K2.mono ?_; rintro e w8 ⟨A8, c8, AR8, cR8, ys8, rfl, Q8, T8⟩; obtain ⟨P8, sep8⟩ := keepP P7 Q7 sep7 T8; have b8 := b7.trans (T8.below b7.size Q7.wd Q7.wp Q7.lb)))
                    have PR8 : Pair w8 w.heap.size p d q x S1 A7 c7 AL7 cL7 xs7 A8 c8 AR8 cR8 ys8 := ⟨P8, Q8, sep8⟩
                    have hFn := HF2.out
                    clear K1 K2 K2' P7 Q7 sep7 T7 P8 Q8 sep8 T8 PRd bd b b7 HF2 O
                    go_wp2_with fail
                    have hFc := Lib.hid hFn
                    have hjc := hFn.l
                    have hRc := joined_len S1.R
                    clear hFn
                    have PRd := PR8.quiet (drew_one w8)
                    have bd := b8.grown (drew_one w8) b8.size (by simp)
                    have hQd := PRd.Q
                    have hPd := PRd.P
                    have hsmc := joined_small hPd.few
                    have hfewc := hPd.few
                    have KS := Lib.hid (fun (w' : World) (h : Ref.LogAt w' w.heap.size q x S1 A8 c8 AR8 cR8 ys8) => (show w'.cell? ⟨q, 1, none⟩ = some (.slice AR8 S1.R.length cR8) ∧ w'.cell? ⟨x, 2, none⟩ = some (.slice A8 (joined S1.R).length c8) ∧ w'.cell? ⟨x, 1, none⟩ = some (.int .i64 (S1.s : Int)) from ⟨h.cell1, h.disk.cell2, h.disk.cell1⟩))
                    have C33 := log_disk hPd
                    have K14 := log_records hPd (by omega)
                    clear PR8 b8
                    go_wp2_with fail
                    go_region_held3 (fun w' => w'.cell? ⟨q, 1, none⟩ = some (.slice AR8 S1.R.length cR8) ∧ w'.cell? ⟨x, 2, none⟩ = some (.slice A8 (joined S1.R).length c8) ∧ w'.cell? ⟨x, 1, none⟩ = some (.int .i64 (S1.s : Int))) (first | exact KS.out _ (by assumption) | go_keep) (first
                      | (go_at_call 33; refine C33.mono ?_; rintro e wZ ⟨rfl, rfl⟩)
                      | (go_at_call 14; refine K14.mono ?_; rintro e wR ⟨A14, c14, y14, rfl, O14, R14, b14⟩; have PRr := PRd.quiet (below_quiet2 b14); have hQr := PRr.Q; have br := bd.trans (b14.mono bd.size); have K18 := lists_same A14 AR8 c14 cR8 _ _ S1.R wR (ListsAt.of_own O14 R14) (ListsAt.of_own hQr.list hQr.rows) (fun q hq => (hfewc q hq).1) (by omega))
                      | (go_at_call 18; refine K18.mono ?_; rintro e wL ⟨rfl, gL⟩; have PRl := PRr.quiet gL; have hQl := PRl.Q; have hPl := PRl.P; have bl := br.grown gL br.size (by simp); have C33 := log_disk hPl; have K20 := bytes_of hPl.disk (by omega))
                      | (go_at_call 20; refine K20.mono ?_; rintro e wB ⟨A20, c20, rfl, O20, b20⟩; have PRb := PRl.quiet (below_quiet2 b20); have hQb := PRb.Q; have hPb := PRb.P; have bb := bl.trans (b20.mono bl.size); have C33 := log_disk hPb; have K21 := bytes_same A20 A8 c20 c8 _ _ (joined S1.R) wB O20.reads hQb.disk.row hsmc; have K23 := synced_any hPb.disk)
                      | (go_at_call 21; refine K21.mono ?_; rintro e wC ⟨rfl, rfl⟩)
                      | (go_at_call 23; refine K23.mono ?_; rintro e wD ⟨rfl, rfl⟩))
                    go_wp2_with fail
                    go_roundw
                    case rel => exact ⟨j + 1, p, q, S1, A7, c7, AL7, cL7, xs7, A8, c8, AR8, cR8, ys8, by omega, rfl, rfl, by go_num, PRb, hFc.out, bb⟩
                    case measure => simp [intOf]; omega
                · by_cases k3 : L[j].k = 3
                  · as_aux_lemma =>
                      have hjt := joined_total L[j].ls
                      have hF2 : Fine (checkL S L[j].ls).1 (21800 + weight (L.take (j + 1)) + 6 * (j + 1)) := (checkL_fine hF L[j].ls (Nat.le_refl _)).more (by omega)
                      have K1 := log_check (c2 := c2) PRd.P hFb (hps.below bd) (fun _ => Nat.le_refl _) bd.size (by omega) (by omega)
                      have K2' := Lib.hid (fun (wa : World) (Qa : Ref.LogAt wa w.heap.size q x S A6' c6' AR6 cR6 ys6) (ba : Below w.heap.size w wa) => Ref.log_check (c2 := c2) Qa hFb (hps.below ba) ba.size (by omega) (by omega))
                      generalize checkL S L[j].ls = Z at K1 K2' hF2
                      obtain ⟨S1, z1'⟩ := Z
                      dsimp only at K1 K2' hF2
                      have HF2 := Lib.hid hF2
                      clear hF2
                      have hcw := HCL.out _ b
                      clear hkn p1 p2 hws hwt PR
                      rw [k3] at hk
                      go_wp2_with fail
                      go_region_held3 (fun w' => w'.cell? ⟨(ad.add (j * 4)).block, (ad.add (j * 4)).off + 3, none⟩ = some (.slice A2 L[j].ls.length c2)) (first | exact HCL.out _ (by assumption) | go_keep) (first
                        | (go_at_call 16; refine K1.mono ?_; rintro e w6 ⟨A7, c7, AL7, cL7, xs7, rfl, P7, T7⟩; obtain ⟨Q7, sep7⟩ := keepR PRd.Q PRd.P PRd.sep T7; have b7 := bd.trans (T7.below bd.size PRd.P.wd PRd.P.wp PRd.P.lb); have K2 := K2'.out _ Q7 b7)
                        | (go_at_call 29; refine K2.mono ?_; rintro e w8 ⟨A8, c8, AR8, cR8, ys8, rfl, Q8, T8⟩; obtain ⟨P8, sep8⟩ := keepP P7 Q7 sep7 T8; have b8 := b7.trans (T8.below b7.size Q7.wd Q7.wp Q7.lb)))
                      have PR8 : Pair w8 w.heap.size p d q x S1 A7 c7 AL7 cL7 xs7 A8 c8 AR8 cR8 ys8 := ⟨P8, Q8, sep8⟩
                      have hFn := HF2.out
                      clear K1 K2 K2' P7 Q7 sep7 T7 P8 Q8 sep8 T8 PRd bd b b7 HF2 O
                      go_wp2_with fail
                      have hFc := Lib.hid hFn
                      have hjc := hFn.l
                      have hRc := joined_len S1.R
                      clear hFn
                      have PRd := PR8.quiet (drew_one w8)
                      have bd := b8.grown (drew_one w8) b8.size (by simp)
                      have hQd := PRd.Q
                      have hPd := PRd.P
                      have hsmc := joined_small hPd.few
                      have hfewc := hPd.few
                      have KS := Lib.hid (fun (w' : World) (h : Ref.LogAt w' w.heap.size q x S1 A8 c8 AR8 cR8 ys8) => (show w'.cell? ⟨q, 1, none⟩ = some (.slice AR8 S1.R.length cR8) ∧ w'.cell? ⟨x, 2, none⟩ = some (.slice A8 (joined S1.R).length c8) ∧ w'.cell? ⟨x, 1, none⟩ = some (.int .i64 (S1.s : Int)) from ⟨h.cell1, h.disk.cell2, h.disk.cell1⟩))
                      have C33 := log_disk hPd
                      have K14 := log_records hPd (by omega)
                      clear PR8 b8
                      go_wp2_with fail
                      go_region_held3 (fun w' => w'.cell? ⟨q, 1, none⟩ = some (.slice AR8 S1.R.length cR8) ∧ w'.cell? ⟨x, 2, none⟩ = some (.slice A8 (joined S1.R).length c8) ∧ w'.cell? ⟨x, 1, none⟩ = some (.int .i64 (S1.s : Int))) (first | exact KS.out _ (by assumption) | go_keep) (first
                        | (go_at_call 33; refine C33.mono ?_; rintro e wZ ⟨rfl, rfl⟩)
                        | (go_at_call 14; refine K14.mono ?_; rintro e wR ⟨A14, c14, y14, rfl, O14, R14, b14⟩; have PRr := PRd.quiet (below_quiet2 b14); have hQr := PRr.Q; have br := bd.trans (b14.mono bd.size); have K18 := lists_same A14 AR8 c14 cR8 _ _ S1.R wR (ListsAt.of_own O14 R14) (ListsAt.of_own hQr.list hQr.rows) (fun q hq => (hfewc q hq).1) (by omega))
                        | (go_at_call 18; refine K18.mono ?_; rintro e wL ⟨rfl, gL⟩; have PRl := PRr.quiet gL; have hQl := PRl.Q; have hPl := PRl.P; have bl := br.grown gL br.size (by simp); have C33 := log_disk hPl; have K20 := bytes_of hPl.disk (by omega))
                        | (go_at_call 20; refine K20.mono ?_; rintro e wB ⟨A20, c20, rfl, O20, b20⟩; have PRb := PRl.quiet (below_quiet2 b20); have hQb := PRb.Q; have hPb := PRb.P; have bb := bl.trans (b20.mono bl.size); have C33 := log_disk hPb; have K21 := bytes_same A20 A8 c20 c8 _ _ (joined S1.R) wB O20.reads hQb.disk.row hsmc; have K23 := synced_any hPb.disk)
                        | (go_at_call 21; refine K21.mono ?_; rintro e wC ⟨rfl, rfl⟩)
                        | (go_at_call 23; refine K23.mono ?_; rintro e wD ⟨rfl, rfl⟩))
                      go_wp2_with fail
                      go_roundw
                      case rel => exact ⟨j + 1, p, q, S1, A7, c7, AL7, cL7, xs7, A8, c8, AR8, cR8, ys8, by omega, rfl, rfl, by go_num, PRb, hFc.out, bb⟩
                      case measure => simp [intOf]; omega
                  · by_cases k4 : L[j].k = 4
                    · as_aux_lemma =>
                        have hcut := left_le (keep := L[j].n) hF.s
                        have hlc : ((joined S.R).take (left_ S.s (joined S.R).length L[j].n)).length = left_ S.s (joined S.R).length L[j].n := by rw [List.length_take]; omega
                        have K1 := crash_new PR.P.disk L[j].n olo ohi hF.s (by omega)
                        have X0 := PR.Q.disk
                        have K2' := Lib.hid (fun (wa : World) (Xa : Ref.DiskAt wa x S.r S.s A6' c6' (joined S.R)) => Ref.crash_new Xa L[j].n olo ohi hF.s (by omega))
                        generalize left_ S.s (joined S.R).length L[j].n = cut at K1 K2' hcut hlc
                        generalize (joined S.R).take cut = T at K1 K2' hlc
                        have hcb : cut ≤ 300000 := Nat.le_trans hcut.2 hFb.l
                        have hr0 := hF.r0
                        have hr1 := hF.r1
                        clear p1 p2 PRd bd
                        have hF2 : Fine ⟨S.r, min cut (scand T).2, (scand T).1⟩ (21800 + weight (L.take (j + 1)) + 6 * (j + 1)) := opened_fine hr0 hr1 (by omega)
                        have HF2 := Lib.hid hF2
                        clear hF2 hws hwt
                        rw [k4] at hk
                        have hcw := HCN.out _ b
                        go_wp2_with fail
                        refine K1.mono ?_
                        rintro e w6 ⟨A7, c7, rfl, D7, g7, F7⟩
                        have X7 := X0.besideD PR.P.disk g7
                        have b7 := b.grown g7 hw (fun k e => by injection e with e; omega)
                        have hw7 := b7.size
                        have hcw7 := HCN.out _ b7
                        have K2 := K2'.out _ X7
                        clear K1 K2' PR X0 b hcw
                        go_wp2_with fail
                        refine K2.mono ?_
                        rintro e w8 ⟨A8, c8, rfl, X8, g8, F8⟩
                        have D8 := Ref.DiskAt.besideR X7 D7 g8
                        have b8 := b7.grown g8 hw7 (fun k e => by injection e with e; omega)
                        have hw8 := b8.size
                        have K3 := open_new D8 (by omega) (by omega)
                        clear K2 X7 D7 b7 g8 hcw7
                        go_wp2_with fail
                        refine K3.mono ?_
                        rintro e w9 ⟨p9, A9, c9, AL9, cL9, xs9, rfl, hp9, hL9, g9, hn9⟩
                        have P9 := hL9 w.heap.size hw8 hw1
                        have X9 := X8.besideD D8 g9
                        have b9 := b8.grown g9 hw8 (fun k e => by injection e with e; omega)
                        have hw9 := b9.size
                        have K4 := Ref.open_any X9 (by omega) (by omega)
                        clear K3 X8 D8 b8 g9 hL9
                        go_wp2_with fail
                        refine K4.mono ?_
                        rintro e wa ⟨qa, Aa, ca, ARa, cRa, ysa, rfl, hqa, hLa, ga, hna⟩
                        have Qa := hLa w.heap.size hw9 hw2
                        have PRa := pair_make P9 X9 ga Qa hna
                        have ba := b9.grown ga hw9 (fun k e => by injection e with e; omega)
                        have hFn := HF2.out
                        clear K4 X9 P9 Qa b9 ga hLa hna hn9 HF2 O
                        generalize (⟨S.r, min cut (scand T).2, (scand T).1⟩ : Lg) = S1 at PRa hFn
                        go_wp2_with fail
                        have hFc := Lib.hid hFn
                        have hjc := hFn.l
                        have hRc := joined_len S1.R
                        clear hFn
                        have PRd := PRa.quiet (drew_one wa)
                        have bd := ba.grown (drew_one wa) ba.size (by simp)
                        have hQd := PRd.Q
                        have hPd := PRd.P
                        have hsmc := joined_small hPd.few
                        have hfewc := hPd.few
                        have KS := Lib.hid (fun (w' : World) (h : Ref.LogAt w' w.heap.size qa x S1 Aa ca ARa cRa ysa) => (show w'.cell? ⟨qa, 1, none⟩ = some (.slice ARa S1.R.length cRa) ∧ w'.cell? ⟨x, 2, none⟩ = some (.slice Aa (joined S1.R).length ca) ∧ w'.cell? ⟨x, 1, none⟩ = some (.int .i64 (S1.s : Int)) from ⟨h.cell1, h.disk.cell2, h.disk.cell1⟩))
                        have C33 := log_disk hPd
                        have K14 := log_records hPd (by omega)
                        clear PRa ba
                        go_wp2_with fail
                        go_region_held3 (fun w' => w'.cell? ⟨qa, 1, none⟩ = some (.slice ARa S1.R.length cRa) ∧ w'.cell? ⟨x, 2, none⟩ = some (.slice Aa (joined S1.R).length ca) ∧ w'.cell? ⟨x, 1, none⟩ = some (.int .i64 (S1.s : Int))) (first | exact KS.out _ (by assumption) | go_keep) (first
                          | (go_at_call 33; refine C33.mono ?_; rintro e wZ ⟨rfl, rfl⟩)
                          | (go_at_call 14; refine K14.mono ?_; rintro e wR ⟨A14, c14, y14, rfl, O14, R14, b14⟩; have PRr := PRd.quiet (below_quiet2 b14); have hQr := PRr.Q; have br := bd.trans (b14.mono bd.size); have K18 := lists_same A14 ARa c14 cRa _ _ S1.R wR (ListsAt.of_own O14 R14) (ListsAt.of_own hQr.list hQr.rows) (fun q hq => (hfewc q hq).1) (by omega))
                          | (go_at_call 18; refine K18.mono ?_; rintro e wL ⟨rfl, gL⟩; have PRl := PRr.quiet gL; have hQl := PRl.Q; have hPl := PRl.P; have bl := br.grown gL br.size (by simp); have C33 := log_disk hPl; have K20 := bytes_of hPl.disk (by omega))
                          | (go_at_call 20; refine K20.mono ?_; rintro e wB ⟨A20, c20, rfl, O20, b20⟩; have PRb := PRl.quiet (below_quiet2 b20); have hQb := PRb.Q; have hPb := PRb.P; have bb := bl.trans (b20.mono bl.size); have C33 := log_disk hPb; have K21 := bytes_same A20 Aa c20 ca _ _ (joined S1.R) wB O20.reads hQb.disk.row hsmc; have K23 := synced_any hPb.disk)
                          | (go_at_call 21; refine K21.mono ?_; rintro e wC ⟨rfl, rfl⟩)
                          | (go_at_call 23; refine K23.mono ?_; rintro e wD ⟨rfl, rfl⟩))
                        go_wp2_with fail
                        go_roundw
                        case rel => exact ⟨j + 1, p9, qa, S1, A9, c9, AL9, cL9, xs9, Aa, ca, ARa, cRa, ysa, by omega, rfl, rfl, by go_num, PRb, hFc.out, bb⟩
                        case measure => simp [intOf]; omega
                    · by_cases k5 : L[j].k = 5
                      · as_aux_lemma =>
                          have hcw := HCN.out _ b
                          rw [k5] at hk
                          by_cases hin : 0 ≤ L[j].n ∧ L[j].n ≤ 1073741824
                          · have K1 := resize_yes PRd.P.disk L[j].n hin
                            have K2' := Lib.hid (fun (wa : World) (Xa : Ref.DiskAt wa x S.r S.s A6' c6' (joined S.R)) => Ref.resize_yes Xa L[j].n hin)
                            have hF2 : Fine ⟨L[j].n, S.s, S.R⟩ (21800 + weight (L.take (j + 1)) + 6 * (j + 1)) := ⟨hin.1, hin.2, hF.s, by show (joined S.R).length ≤ _; omega⟩
                            have HF2 := Lib.hid hF2
                            clear hF2 hws hwt hin p1 p2 PR hkn
                            generalize hnn : L[j].n = nn at *
                            clear hnn
                            go_wp2_with fail
                            go_region_held3 (fun w' => w'.cell? ⟨(ad.add (j * 4)).block, (ad.add (j * 4)).off + 1, none⟩ = some (.int .i64 nn)) (first | exact HCN.out _ (by assumption) | go_keep) (first
                              | (go_at_call 31; refine K1.mono ?_; rintro e w6 ⟨rfl, D7, g7⟩; have P7 := PRd.P.turn g7 (S' := ⟨nn, S.s, S.R⟩) rfl D7; obtain ⟨Q7, sep7⟩ := keepR PRd.Q PRd.P PRd.sep (Trip.disk g7); have b7 := bd.grown g7 bd.size (fun k e => by injection e with e; omega); have K2 := K2'.out _ Q7.disk)
                              | (go_at_call 32; refine K2.mono ?_; rintro e w8 ⟨rfl, X8, g8⟩; have Q8 := Q7.turn g8 (S' := ⟨nn, S.s, S.R⟩) rfl X8; obtain ⟨P8, sep8⟩ := keepP P7 Q7 sep7 (Trip.disk g8); have b8 := b7.grown g8 b7.size (fun k e => by injection e with e; omega)))
                            have PR8 : Pair w8 w.heap.size p d q x ⟨nn, S.s, S.R⟩ A5 c5 AL5 cL5 xs5 A6' c6' AR6 cR6 ys6 := ⟨P8, Q8, sep8⟩
                            have hFn := HF2.out
                            clear K1 K2 K2' P7 Q7 sep7 g7 P8 Q8 sep8 g8 PRd bd b b7 HF2 O D7 X8
                            generalize (⟨nn, S.s, S.R⟩ : Lg) = S1 at PR8 hFn
                            go_wp2_with fail
                            have hFc := Lib.hid hFn
                            have hjc := hFn.l
                            have hRc := joined_len S1.R
                            clear hFn
                            have PRd := PR8.quiet (drew_one w8)
                            have bd := b8.grown (drew_one w8) b8.size (by simp)
                            have hQd := PRd.Q
                            have hPd := PRd.P
                            have hsmc := joined_small hPd.few
                            have hfewc := hPd.few
                            have KS := Lib.hid (fun (w' : World) (h : Ref.LogAt w' w.heap.size q x S1 A6' c6' AR6 cR6 ys6) => (show w'.cell? ⟨q, 1, none⟩ = some (.slice AR6 S1.R.length cR6) ∧ w'.cell? ⟨x, 2, none⟩ = some (.slice A6' (joined S1.R).length c6') ∧ w'.cell? ⟨x, 1, none⟩ = some (.int .i64 (S1.s : Int)) from ⟨h.cell1, h.disk.cell2, h.disk.cell1⟩))
                            have C33 := log_disk hPd
                            have K14 := log_records hPd (by omega)
                            clear PR8 b8
                            go_wp2_with fail
                            go_region_held3 (fun w' => w'.cell? ⟨q, 1, none⟩ = some (.slice AR6 S1.R.length cR6) ∧ w'.cell? ⟨x, 2, none⟩ = some (.slice A6' (joined S1.R).length c6') ∧ w'.cell? ⟨x, 1, none⟩ = some (.int .i64 (S1.s : Int))) (first | exact KS.out _ (by assumption) | go_keep) (first
                              | (go_at_call 33; refine C33.mono ?_; rintro e wZ ⟨rfl, rfl⟩)
                              | (go_at_call 14; refine K14.mono ?_; rintro e wR ⟨A14, c14, y14, rfl, O14, R14, b14⟩; have PRr := PRd.quiet (below_quiet2 b14); have hQr := PRr.Q; have br := bd.trans (b14.mono bd.size); have K18 := lists_same A14 AR6 c14 cR6 _ _ S1.R wR (ListsAt.of_own O14 R14) (ListsAt.of_own hQr.list hQr.rows) (fun q hq => (hfewc q hq).1) (by omega))
                              | (go_at_call 18; refine K18.mono ?_; rintro e wL ⟨rfl, gL⟩; have PRl := PRr.quiet gL; have hQl := PRl.Q; have hPl := PRl.P; have bl := br.grown gL br.size (by simp); have C33 := log_disk hPl; have K20 := bytes_of hPl.disk (by omega))
                              | (go_at_call 20; refine K20.mono ?_; rintro e wB ⟨A20, c20, rfl, O20, b20⟩; have PRb := PRl.quiet (below_quiet2 b20); have hQb := PRb.Q; have hPb := PRb.P; have bb := bl.trans (b20.mono bl.size); have C33 := log_disk hPb; have K21 := bytes_same A20 A6' c20 c6' _ _ (joined S1.R) wB O20.reads hQb.disk.row hsmc; have K23 := synced_any hPb.disk)
                              | (go_at_call 21; refine K21.mono ?_; rintro e wC ⟨rfl, rfl⟩)
                              | (go_at_call 23; refine K23.mono ?_; rintro e wD ⟨rfl, rfl⟩))
                            go_wp2_with fail
                            go_roundw
                            case rel => exact ⟨j + 1, p, q, S1, A5, c5, AL5, cL5, xs5, A6', c6', AR6, cR6, ys6, by omega, rfl, rfl, by go_num, PRb, hFc.out, bb⟩
                            case measure => simp [intOf]; omega
                          · have K1 := resize_no (w := wr.drew) (d := d) L[j].n hin
                            have K2 := Ref.resize_no (w := wr.drew) (d := x) L[j].n hin
                            have hF2 : Fine S (21800 + weight (L.take (j + 1)) + 6 * (j + 1)) := hF.more (by omega)
                            have HF2 := Lib.hid hF2
                            clear hF2 hws hwt hin p1 p2 PR hkn
                            generalize hnn : L[j].n = nn at *
                            clear hnn
                            go_wp2_with fail
                            go_region_held3 (fun w' => w'.cell? ⟨(ad.add (j * 4)).block, (ad.add (j * 4)).off + 1, none⟩ = some (.int .i64 nn)) (first | exact HCN.out _ (by assumption) | go_keep) (first
                              | (go_at_call 31; refine K1.mono ?_; rintro e w6 ⟨rfl, rfl⟩)
                              | (go_at_call 32; refine K2.mono ?_; rintro e w8 ⟨rfl, rfl⟩))
                            have hFn := HF2.out
                            obtain ⟨w8, hw8⟩ : ∃ w8, w8 = wr.drew := ⟨_, rfl⟩
                            rw [← hw8] at PRd bd ⊢
                            have PR8 := PRd
                            have b8 := bd
                            clear K1 K2 b HF2 O hw8 hcw hk PRd bd
                            go_wp2_with fail
                            have hFc := Lib.hid hFn
                            have hjc := hFn.l
                            have hRc := joined_len S.R
                            clear hFn
                            have PRd := PR8.quiet (drew_one w8)
                            have bd := b8.grown (drew_one w8) b8.size (by simp)
                            have hQd := PRd.Q
                            have hPd := PRd.P
                            have hsmc := joined_small hPd.few
                            have hfewc := hPd.few
                            have KS := Lib.hid (fun (w' : World) (h : Ref.LogAt w' w.heap.size q x S A6' c6' AR6 cR6 ys6) => (show w'.cell? ⟨q, 1, none⟩ = some (.slice AR6 S.R.length cR6) ∧ w'.cell? ⟨x, 2, none⟩ = some (.slice A6' (joined S.R).length c6') ∧ w'.cell? ⟨x, 1, none⟩ = some (.int .i64 (S.s : Int)) from ⟨h.cell1, h.disk.cell2, h.disk.cell1⟩))
                            have C33 := log_disk hPd
                            have K14 := log_records hPd (by omega)
                            clear PR8 b8
                            go_wp2_with fail
                            go_region_held3 (fun w' => w'.cell? ⟨q, 1, none⟩ = some (.slice AR6 S.R.length cR6) ∧ w'.cell? ⟨x, 2, none⟩ = some (.slice A6' (joined S.R).length c6') ∧ w'.cell? ⟨x, 1, none⟩ = some (.int .i64 (S.s : Int))) (first | exact KS.out _ (by assumption) | go_keep) (first
                              | (go_at_call 33; refine C33.mono ?_; rintro e wZ ⟨rfl, rfl⟩)
                              | (go_at_call 14; refine K14.mono ?_; rintro e wR ⟨A14, c14, y14, rfl, O14, R14, b14⟩; have PRr := PRd.quiet (below_quiet2 b14); have hQr := PRr.Q; have br := bd.trans (b14.mono bd.size); have K18 := lists_same A14 AR6 c14 cR6 _ _ S.R wR (ListsAt.of_own O14 R14) (ListsAt.of_own hQr.list hQr.rows) (fun q hq => (hfewc q hq).1) (by omega))
                              | (go_at_call 18; refine K18.mono ?_; rintro e wL ⟨rfl, gL⟩; have PRl := PRr.quiet gL; have hQl := PRl.Q; have hPl := PRl.P; have bl := br.grown gL br.size (by simp); have C33 := log_disk hPl; have K20 := bytes_of hPl.disk (by omega))
                              | (go_at_call 20; refine K20.mono ?_; rintro e wB ⟨A20, c20, rfl, O20, b20⟩; have PRb := PRl.quiet (below_quiet2 b20); have hQb := PRb.Q; have hPb := PRb.P; have bb := bl.trans (b20.mono bl.size); have C33 := log_disk hPb; have K21 := bytes_same A20 A6' c20 c6' _ _ (joined S.R) wB O20.reads hQb.disk.row hsmc; have K23 := synced_any hPb.disk)
                              | (go_at_call 21; refine K21.mono ?_; rintro e wC ⟨rfl, rfl⟩)
                              | (go_at_call 23; refine K23.mono ?_; rintro e wD ⟨rfl, rfl⟩))
                            go_wp2_with fail
                            go_roundw
                            case rel => exact ⟨j + 1, p, q, S, A5, c5, AL5, cL5, xs5, A6', c6', AR6, cR6, ys6, by omega, rfl, rfl, by go_num, PRb, hFc.out, bb⟩
                            case measure => simp [intOf]; omega
                      · as_aux_lemma =>
                          have q0 : (L[j].k == 0) = false := by simp; omega
                          have q1 : (L[j].k == 1) = false := by simp; omega
                          have q2 : (L[j].k == 2) = false := by simp; omega
                          have q3 : (L[j].k == 3) = false := by simp; omega
                          have q4 : (L[j].k == 4) = false := by simp; omega
                          have q5 : (L[j].k == 5) = false := by simp; omega
                          have hF2 : Fine S (21800 + weight (L.take (j + 1)) + 6 * (j + 1)) := hF.more (by omega)
                          have hFn := hF2
                          clear hws hwt k0 k1 k2 k3 k4 k5 PRd bd hF2 p1 p2 hkn
                          generalize L[j].k = kk at *
                          go_wp2_with fail
                          have hFc := Lib.hid hFn
                          have hjc := hFn.l
                          have hRc := joined_len S.R
                          clear hFn
                          have PRd := PR.quiet (drew_one wr)
                          have bd := b.grown (drew_one wr) b.size (by simp)
                          have hQd := PRd.Q
                          have hPd := PRd.P
                          have hsmc := joined_small hPd.few
                          have hfewc := hPd.few
                          have KS := Lib.hid (fun (w' : World) (h : Ref.LogAt w' w.heap.size q x S A6' c6' AR6 cR6 ys6) => (show w'.cell? ⟨q, 1, none⟩ = some (.slice AR6 S.R.length cR6) ∧ w'.cell? ⟨x, 2, none⟩ = some (.slice A6' (joined S.R).length c6') ∧ w'.cell? ⟨x, 1, none⟩ = some (.int .i64 (S.s : Int)) from ⟨h.cell1, h.disk.cell2, h.disk.cell1⟩))
                          have C33 := log_disk hPd
                          have K14 := log_records hPd (by omega)
                          clear PR b
                          go_wp2_with fail
                          go_region_held3 (fun w' => w'.cell? ⟨q, 1, none⟩ = some (.slice AR6 S.R.length cR6) ∧ w'.cell? ⟨x, 2, none⟩ = some (.slice A6' (joined S.R).length c6') ∧ w'.cell? ⟨x, 1, none⟩ = some (.int .i64 (S.s : Int))) (first | exact KS.out _ (by assumption) | go_keep) (first
                            | (go_at_call 33; refine C33.mono ?_; rintro e wZ ⟨rfl, rfl⟩)
                            | (go_at_call 14; refine K14.mono ?_; rintro e wR ⟨A14, c14, y14, rfl, O14, R14, b14⟩; have PRr := PRd.quiet (below_quiet2 b14); have hQr := PRr.Q; have br := bd.trans (b14.mono bd.size); have K18 := lists_same A14 AR6 c14 cR6 _ _ S.R wR (ListsAt.of_own O14 R14) (ListsAt.of_own hQr.list hQr.rows) (fun q hq => (hfewc q hq).1) (by omega))
                            | (go_at_call 18; refine K18.mono ?_; rintro e wL ⟨rfl, gL⟩; have PRl := PRr.quiet gL; have hQl := PRl.Q; have hPl := PRl.P; have bl := br.grown gL br.size (by simp); have C33 := log_disk hPl; have K20 := bytes_of hPl.disk (by omega))
                            | (go_at_call 20; refine K20.mono ?_; rintro e wB ⟨A20, c20, rfl, O20, b20⟩; have PRb := PRl.quiet (below_quiet2 b20); have hQb := PRb.Q; have hPb := PRb.P; have bb := bl.trans (b20.mono bl.size); have C33 := log_disk hPb; have K21 := bytes_same A20 A6' c20 c6' _ _ (joined S.R) wB O20.reads hQb.disk.row hsmc; have K23 := synced_any hPb.disk)
                            | (go_at_call 21; refine K21.mono ?_; rintro e wC ⟨rfl, rfl⟩)
                            | (go_at_call 23; refine K23.mono ?_; rintro e wD ⟨rfl, rfl⟩))
                          go_wp2_with fail
                          go_roundw
                          case rel => exact ⟨j + 1, p, q, S, A5, c5, AL5, cL5, xs5, A6', c6', AR6, cR6, ys6, by omega, rfl, rfl, by go_num, PRb, hFc.out, bb⟩
                          case measure => simp [intOf]; omega
          · obtain rfl : j = L.length := by omega
            go_wp2_with fail
            refine (first_any _).mono ?_
            rintro e w8 ⟨rfl, b8⟩
            go_wp2_with fail
            go_ret
            exact ⟨rfl, b.trans (b8.mono hw)⟩
end Go.Proofs.Ytkhbpaloicefdaa
