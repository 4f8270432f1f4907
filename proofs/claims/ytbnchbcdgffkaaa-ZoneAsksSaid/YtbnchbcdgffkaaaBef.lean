/- zone.fine, zone.Before, zone.After. -/
import Derived.Test.YtbnchbcdgffkaaaNear
import Derived.Laws.Rows
namespace Go.Proofs.Ytbnchbcdgffkaaa
open Go.RowKit
set_option linter.unusedVariables false
/-- A zone's parts as they stand in memory. -/
structure ZAt (w : World) (B : Nat) (A A' : Option Addr) (L : List Sh) (Y : List Yr) : Prop where
  s : ShAt w B A L
  y : YrAt w B A' Y
  l : L.length ≤ maxLen
  l' : Y.length ≤ maxLen
theorem ZAt.below {w w' : World} {B : Nat} {A A' : Option Addr} {L : List Sh} {Y : List Yr} (h : ZAt w B A A' L Y) (b : Below B w w') : ZAt w' B A A' L Y := ⟨h.s.below b, h.y.below b, h.l, h.l'⟩
/-- May the zone be, and the moment? -/
def Fine (bs : Int) (L : List Sh) (Y : List Yr) (fr u : Int) : Prop := MayT u ∧ MayZ bs L Y fr
noncomputable def fineB (bs : Int) (L : List Sh) (Y : List Yr) (fr u : Int) : Bool := decide (MayT u) && mayZB bs L Y fr
theorem fineB_yes {bs : Int} {L : List Sh} {Y : List Yr} {fr u : Int} (h : Fine bs L Y fr u) : fineB bs L Y fr u = true := by
  unfold fineB; rw [decide_eq_true h.1, mayZB_yes h.2]; rfl
theorem fineB_no {bs : Int} {L : List Sh} {Y : List Yr} {fr u : Int} (h : ¬ Fine bs L Y fr u) : fineB bs L Y fr u = false := by
  unfold fineB
  by_cases q : MayT u
  · rw [mayZB_no (fun k => h ⟨q, k⟩), Bool.and_false]
  · rw [decide_eq_false q]; rfl
set_option maxHeartbeats 4000000 in
theorem fine_any (bs : Int) (A : Option Addr) (c : Nat) (A' : Option Addr) (c' : Nat) (fr u : Int) (L : List Sh) (Y : List Yr) (B : Nat) (w : World) (hz : ZAt w B A A' L Y) (hB : B ≤ w.heap.size) :
    Calls Try.prog 31 #[zv bs A L.length c A' Y.length c' fr, .int .i64 u] w fun e w' => e = .returned (.bool (fineB bs L Y fr u)) ∧ Below w.heap.size w w' := by
  by_cases q : MayT u
  · have e : fineB bs L Y fr u = mayZB bs L Y fr := by unfold fineB; rw [decide_eq_true q]; rfl
    rw [e]
    clear e
    have qt := decide_eq_true q
    go_enter Try.func31, Try.ntmps31
    go_wp2_with fail
    have bx := (Below.refl w.heap.size w).alloc (Nat.le_refl _) (zo bs A L.length c A' Y.length c' fr)
    have HB := Lib.hid (Boxed.new_ (bs := bs) (A := A) (n := L.length) (c := c) (A' := A') (n' := Y.length) (c' := c') (fr := fr) w)
    generalize w.alloc (zo bs A L.length c A' Y.length c' fr) = w1 at bx HB ⊢
    obtain ⟨lt, c0, c1, c2, c3⟩ := HB.out
    have hz1 := hz.below (bx.mono hB)
    have hw := bx.size
    refine (may_any _ _).mono ?_
    rintro e w2 ⟨rfl, rfl⟩
    rw [qt]
    go_wp2_with fail
    refine (mayZone_any bs A c A' c' fr L Y B w1 hz1.s hz1.y (Nat.le_trans hB hw) hz1.l hz1.l').mono ?_
    rintro e w2 ⟨rfl, b2⟩
    go_wp2_with fail
    go_ret
    exact ⟨rfl, bx.trans (b2.mono hw)⟩
  · have qt := decide_eq_false q
    rw [fineB_no fun h => q h.1]
    go_enter Try.func31, Try.ntmps31
    go_wp2_with fail
    refine (may_any _ _).mono ?_
    rintro e w2 ⟨rfl, rfl⟩
    rw [qt]
    have bx := (Below.refl w.heap.size w).alloc (Nat.le_refl _) (zo bs A L.length c A' Y.length c' fr)
    generalize w.alloc (zo bs A L.length c A' Y.length c' fr) = w1 at bx ⊢
    go_wp2_with fail
    go_ret
    exact ⟨rfl, bx⟩
/-- A shift, or none, as a call gives it. -/
def shv : Option Sh → Value
  | some s => .tuple #[.agg #[.int .i64 s.at_, .int .i64 s.off], .bool true]
  | none => .tuple #[.agg #[.int .i64 0, .int .i64 0], .bool false]
/-- The last that is not later. -/
def lastS (u : Int) (N : List Sh) : Option Sh := N.foldl (fun r s => if s.at_ ≤ u then some s else r) none
/-- The first that is later. -/
def firstS (u : Int) (N : List Sh) : Option Sh := N.find? (fun s => decide (u < s.at_))
theorem lastS_snoc (u : Int) (N : List Sh) (j : Nat) (h : j < N.length) : lastS u (N.take (j + 1)) = if N[j].at_ ≤ u then some N[j] else lastS u (N.take j) := by
  rw [List.take_succ_eq_append_getElem h]
  unfold lastS
  rw [List.foldl_append]
  rfl
/-- A shift in a block. -/
structure Two (w : World) (p : Nat) (a b : Int) : Prop where
  blk : w.heap[p]? = some (.cells #[.int .i64 a, .int .i64 b] 29)
theorem Two.lt {w : World} {p : Nat} {a b : Int} (h : Two w p a b) : p < w.heap.size := (Array.getElem?_eq_some_iff.1 h.blk).1
theorem Two.c0 {w : World} {p : Nat} {a b : Int} (h : Two w p a b) : w.cell? ⟨p, 0, none⟩ = some (.int .i64 a) := by simp [World.cell?, h.blk]
theorem Two.c1 {w : World} {p : Nat} {a b : Int} (h : Two w p a b) : w.cell? ⟨p, 1, none⟩ = some (.int .i64 b) := by simp [World.cell?, h.blk]
theorem Two.free {w : World} {p : Nat} {a b : Int} (h : Two w p a b) (i : Nat) : w.frozen? ⟨p, i, none⟩ = false := by simp [World.frozen?, h.blk]
theorem Two.below {w w' : World} {B p : Nat} {a b : Int} (h : Two w p a b) (hb : Below B w w') (hp : p < B) : Two w' p a b := ⟨(hb.block p hp).trans h.blk⟩
theorem Two.new_ (w : World) (a b : Int) (p : Nat) (hp : p = w.heap.size) : Two (w.alloc (.cells #[.int .i64 a, .int .i64 b] 29)) p a b := ⟨by subst hp; show (w.heap.push _)[w.heap.size]? = _; simp⟩
theorem Two.set {w : World} {p : Nat} {a b : Int} (h : Two w p a b) (c d : Int) : Two ((w.setCell ⟨p, 0, none⟩ (.int .i64 c)).setCell ⟨p, 1, none⟩ (.int .i64 d)) p c d := ⟨by
  have := h.blk
  simp [World.setCell, Array.getElem?_modify, this]⟩
theorem Two.other {w : World} {p q i : Nat} {a b : Int} (h : Two w p a b) (hne : p ≠ q) (v : Value) : Two (w.setCell ⟨q, i, none⟩ v) p a b := ⟨(Below.heap_setCell w ⟨q, i, none⟩ v p hne).trans h.blk⟩
theorem OwnS.set {w : World} {base q i : Nat} {v : Value} {L : List Sh} (h : OwnS w base v L) (hq : q < base) (x : Value) : OwnS (w.setCell ⟨q, i, none⟩ x) base v L :=
  World.ownsRow.kept h (row := some q) ⟨rfl, rfl, rfl, by simp [World.setCell], fun k hk hne => Below.heap_setCell w _ x k (by rintro rfl; exact hne rfl)⟩ (by
    cases e : v.ownBlock with
    | none => exact .inl rfl
    | some g => exact .inr fun e2 => by have := (World.ownsRow.lt h g e).1; injection e2 with e2; omega)
theorem OwnS.quiet {w w' : World} {base : Nat} {v : Value} {L : List Sh} (h : OwnS w base v L) (hb : Below w.heap.size w w') : OwnS w' base v L := h.below hb (Nat.le_refl _)
/-- The results of a call that gives a shift and a bool. -/
theorem results_shift {fn : Func} {p u : Tmp} (h : fn.results = #[.cell p 29, .tmp u]) (tmps : Array Value) (w : World) {g : Nat} {a b : Int}
    (hp : tmps.getD p undef = .pointer (some ⟨g, 0, none⟩)) (hg : Two w g a b) :
    (results fn tmps).run Try.prog w = .ok (.tuple #[.agg #[.int .i64 a, .int .i64 b], tmps.getD u undef]) w := by
  have hp' : tmps[p]?.getD undef = .pointer (some ⟨g, 0, none⟩) := by simpa using hp
  have hi : (Try.prog.info? 29).map (·.size) = some 2 := by kernel_rfl
  simp [results, h, hp', asAddr, run_loadVar_row w g _ 29 _ _ _ hg.blk Try.underlying29 rfl hi]
def ra : Option Sh → Int
  | some s => s.at_
  | none => 0
def ro : Option Sh → Int
  | some s => s.off
  | none => 0
theorem shv_eq (r : Option Sh) : shv r = .tuple #[.agg #[.int .i64 (ra r), .int .i64 (ro r)], .bool r.isSome] := by cases r <;> rfl
set_option maxRecDepth 100000 in
set_option maxHeartbeats 4000000 in
theorem before_yes (bs : Int) (A : Option Addr) (c : Nat) (A' : Option Addr) (c' : Nat) (fr u : Int) (L : List Sh) (Y : List Yr) (B : Nat) (w : World) (hF : Fine bs L Y fr u) (hz : ZAt w B A A' L Y) (hB : B ≤ w.heap.size) :
    Calls Try.prog 14 #[zv bs A L.length c A' Y.length c' fr, .int .i64 u] w fun e w' => ∃ y, e = .returned (shv (lastS u (nearL L Y fr y))) ∧ Below w.heap.size w w' ∧ 1 ≤ y ∧ y ≤ 9999 ∧ Civ.fst y ≤ u / 86400 ∧ u / 86400 < Civ.fst (y + 1) := by
  have hFB := fineB_yes hF
  go_enter Try.func14, Try.ntmps14
  go_wp2_with fail
  have bx := (((Below.refl w.heap.size w).alloc (Nat.le_refl _) (zo bs A L.length c A' Y.length c' fr)).alloc (by simp) (.cells #[.int .i64 0, .int .i64 0] 29)).alloc (by simp; omega) (.cells #[.int .i64 0, .int .i64 0] 29)
  have HS : (((w.alloc (zo bs A L.length c A' Y.length c' fr)).alloc (.cells #[.int .i64 0, .int .i64 0] 29)).alloc (.cells #[.int .i64 0, .int .i64 0] 29)).heap.size = w.heap.size + 1 + 1 + 1 := by simp
  have HB : Boxed (((w.alloc (zo bs A L.length c A' Y.length c' fr)).alloc (.cells #[.int .i64 0, .int .i64 0] 29)).alloc (.cells #[.int .i64 0, .int .i64 0] 29)) w.heap.size bs A L.length c A' Y.length c' fr := by
    refine ((Boxed.new_ w).below ((Below.refl (w.heap.size + 1) _).alloc (by simp) _) (by omega)).below ((Below.refl (w.heap.size + 1) _).alloc (by simp) _) (by omega)
  have T1 : Two (((w.alloc (zo bs A L.length c A' Y.length c' fr)).alloc (.cells #[.int .i64 0, .int .i64 0] 29)).alloc (.cells #[.int .i64 0, .int .i64 0] 29)) (w.heap.size + 1) 0 0 := by
    refine Two.below (w := (w.alloc (zo bs A L.length c A' Y.length c' fr)).alloc (.cells #[.int .i64 0, .int .i64 0] 29)) (Two.new_ _ _ _ _ (by simp)) ((Below.refl (w.heap.size + 1 + 1) _).alloc (by simp) _) (by omega)
  have T2 : Two (((w.alloc (zo bs A L.length c A' Y.length c' fr)).alloc (.cells #[.int .i64 0, .int .i64 0] 29)).alloc (.cells #[.int .i64 0, .int .i64 0] 29)) (w.heap.size + 1 + 1) 0 0 := Two.new_ _ _ _ _ (by simp)
  generalize ((w.alloc (zo bs A L.length c A' Y.length c' fr)).alloc (.cells #[.int .i64 0, .int .i64 0] 29)).alloc (.cells #[.int .i64 0, .int .i64 0] 29) = w3 at bx HS HB T1 T2 ⊢
  have HB := Lib.hid HB
  have HS := Lib.hid HS
  have hz3 := hz.below (bx.mono hB)
  have hw := bx.size
  refine (fine_any bs A c A' c' fr u L Y B w3 hz3 (Nat.le_trans hB hw)).mono ?_
  rintro e w4 ⟨rfl, b4⟩
  rw [hFB]
  clear hFB
  have b4a := bx.trans (b4.mono hw)
  have hz4 := hz.below (b4a.mono hB)
  have T1 := T1.below b4 T1.lt
  have T2 := T2.below b4 T2.lt
  obtain ⟨lt, c0, c1, c2, c3⟩ := HB.out.below b4 HB.out.lt
  have hw4 := b4a.size
  go_wp2_with fail
  refine (near_any bs A c A' c' fr u L Y B w4 hF.2.ys hz4.s hz4.y (Nat.le_trans hB hw4) (Nat.le_trans hF.2.sh.few (by decide)) hF.1).mono ?_
  rintro e w5 ⟨A5, c5, y, rfl, O, b5, y1, y2, y3, y4⟩
  have hY := Lib.hid (show 1 ≤ y ∧ y ≤ 9999 ∧ Civ.fst y ≤ u / 86400 ∧ u / 86400 < Civ.fst (y + 1) from ⟨y1, y2, y3, y4⟩)
  have b5a := b4a.trans (b5.mono hw4)
  have T1 := T1.below b5 T1.lt
  have T2 := T2.below b5 T2.lt
  have W4 : w.heap.size + 1 + 1 + 1 ≤ w4.heap.size := by have := b4.size; have := HS.out; omega
  have W5 := b5.size
  have hN : (nearL L Y fr y).length ≤ 1000 := by
    have := acc_len (L := L) (y := y - 1) hF.2.ys 3
    have := yearL_len (y := fr) hF.2.ys
    have := hF.2.sh.few
    unfold nearL
    split
    · simp only [List.length_append]; omega
    · omega
  have hR := Lib.hid (show ∃ N, N = nearL L Y fr y from ⟨_, rfl⟩)
  obtain ⟨N, hN0⟩ := hR.out
  rw [← hN0] at O hN ⊢
  replace hN0 := Lib.hid hN0
  clear hR hz3 hz4 HB c0 c1 c2 c3 lt y1 y2 y3 y4 b4 b5 b4a
  go_wp2_with fail
  go_loopw [7, 19] (fun tv kv wr => ∃ j : Nat, j ≤ N.length ∧ tv = .bool (lastS u (N.take j)).isSome ∧ kv = .int .i64 (j : Int) ∧ OwnS wr w4.heap.size (.slice A5 N.length c5) N ∧ Below w.heap.size w wr ∧ w5.heap.size ≤ wr.heap.size ∧ Two wr (w.heap.size + 1) 0 0 ∧ Two wr (w.heap.size + 1 + 1) (ra (lastS u (N.take j))) (ro (lastS u (N.take j)))) (fun tv kv _ => N.length - (intOf kv).toNat)
  case atStart => exact ⟨0, Nat.zero_le _, rfl, rfl, O, b5a, Nat.le_refl _, T1, T2⟩
  case round =>
    obtain ⟨j, hj, rfl, rfl, O, b, hsz, T1, T2⟩ := hrel
    have hw6 := b.size
    by_cases hlt : j < N.length
    · obtain ⟨ad, rfl, hbl, p0, p1⟩ := O.at_ j hlt
      have i0 : (0 : Int) ≤ (j : Int) := by omega
      have i1 : (j : Int) < (N.length : Int) := by omega
      have hsn := Lib.hid (lastS_snoc u N j hlt)
      obtain ⟨P, hP⟩ : ∃ P : Sh, P = N[j] := ⟨_, rfl⟩
      rw [← hP] at p0 p1 hsn
      clear hP
      have O1 := O.alloc (.cells #[.int .i64 P.at_, .int .i64 P.off] 29)
      have bb := b.alloc hw6 (.cells #[.int .i64 P.at_, .int .i64 P.off] 29)
      have T1 := T1.below ((Below.refl wr.heap.size wr).alloc (Nat.le_refl _) (.cells #[.int .i64 P.at_, .int .i64 P.off] 29)) T1.lt
      have T2 := T2.below ((Below.refl wr.heap.size wr).alloc (Nat.le_refl _) (.cells #[.int .i64 P.at_, .int .i64 P.off] 29)) T2.lt
      by_cases q : P.at_ ≤ u
      · have qt := decide_eq_true q
        have t20 := T2.c0
        have t21 := T2.c1
        have f20 := T2.free 0
        have f21 := T2.free 1
        go_wp2_with fail
        have T2 := T2.set P.at_ P.off
        have T1 := (T1.other (q := w.heap.size + 1 + 1) (i := 0) (by omega) (.int .i64 P.at_)).other (q := w.heap.size + 1 + 1) (i := 1) (by omega) (.int .i64 P.off)
        have O1 := (O1.set (q := w.heap.size + 1 + 1) (i := 0) (by omega) (.int .i64 P.at_)).set (q := w.heap.size + 1 + 1) (i := 1) (by omega) (.int .i64 P.off)
        have bb := (bb.setCell (p := ⟨w.heap.size + 1 + 1, 0, none⟩) (by simp only; omega) (.int .i64 P.at_)).setCell (p := ⟨w.heap.size + 1 + 1, 1, none⟩) (by simp only; omega) (.int .i64 P.off)
        go_roundw
        case rel => exact ⟨j + 1, by omega, by rw [hsn.out, if_pos q]; rfl, by simp, O1, bb, by simp [World.setCell]; omega, T1, by rw [hsn.out, if_pos q]; exact T2⟩
        case measure => simp [intOf]; omega
      · have qt := decide_eq_false q
        go_wp2_with fail
        go_roundw
        case rel => exact ⟨j + 1, by omega, by rw [hsn.out, if_neg q], by simp, O1, bb, by simp; omega, T1, by rw [hsn.out, if_neg q]; exact T2⟩
        case measure => simp [intOf]; omega
    · obtain rfl : j = N.length := by omega
      rw [List.take_length] at T2
      have t20 := T2.c0
      have t21 := T2.c1
      have t10 := T1.c0
      have t11 := T1.c1
      have f10 := T1.free 0
      have f11 := T1.free 1
      go_wp2_with fail
      have T1 := T1.set (ra (lastS u N)) (ro (lastS u N))
      rw [List.take_length]
      refine bodyPost_ret (results_shift rfl _ _ rfl T1) rfl ?_
      have bb := (b.setCell (p := ⟨w.heap.size + 1, 0, none⟩) (by simp only; omega) (.int .i64 (ra (lastS u N)))).setCell (p := ⟨w.heap.size + 1, 1, none⟩) (by simp only; omega) (.int .i64 (ro (lastS u N)))
      exact ⟨y, by rw [shv_eq, ← hN0.out]; rfl, bb, hY.out⟩
theorem before_no (bs : Int) (A : Option Addr) (c : Nat) (A' : Option Addr) (c' : Nat) (fr u : Int) (L : List Sh) (Y : List Yr) (B : Nat) (w : World) (hF : ¬ Fine bs L Y fr u) (hz : ZAt w B A A' L Y) (hB : B ≤ w.heap.size) :
    Calls Try.prog 14 #[zv bs A L.length c A' Y.length c' fr, .int .i64 u] w fun e w' => e = .returned (shv none) ∧ Below w.heap.size w w' := by
  have hFB := fineB_no hF
  go_enter Try.func14, Try.ntmps14
  go_wp2_with fail
  have bx := (((Below.refl w.heap.size w).alloc (Nat.le_refl _) (zo bs A L.length c A' Y.length c' fr)).alloc (by simp) (.cells #[.int .i64 0, .int .i64 0] 29)).alloc (by simp; omega) (.cells #[.int .i64 0, .int .i64 0] 29)
  have T1 : Two (((w.alloc (zo bs A L.length c A' Y.length c' fr)).alloc (.cells #[.int .i64 0, .int .i64 0] 29)).alloc (.cells #[.int .i64 0, .int .i64 0] 29)) (w.heap.size + 1) 0 0 := by
    refine Two.below (w := (w.alloc (zo bs A L.length c A' Y.length c' fr)).alloc (.cells #[.int .i64 0, .int .i64 0] 29)) (Two.new_ _ _ _ _ (by simp)) ((Below.refl (w.heap.size + 1 + 1) _).alloc (by simp) _) (by omega)
  have T2 : Two (((w.alloc (zo bs A L.length c A' Y.length c' fr)).alloc (.cells #[.int .i64 0, .int .i64 0] 29)).alloc (.cells #[.int .i64 0, .int .i64 0] 29)) (w.heap.size + 1 + 1) 0 0 := Two.new_ _ _ _ _ (by simp)
  generalize ((w.alloc (zo bs A L.length c A' Y.length c' fr)).alloc (.cells #[.int .i64 0, .int .i64 0] 29)).alloc (.cells #[.int .i64 0, .int .i64 0] 29) = w3 at bx T1 T2 ⊢
  have hz3 := hz.below (bx.mono hB)
  have hw := bx.size
  refine (fine_any bs A c A' c' fr u L Y B w3 hz3 (Nat.le_trans hB hw)).mono ?_
  rintro e w4 ⟨rfl, b4⟩
  rw [hFB]
  clear hFB
  have b4a := bx.trans (b4.mono hw)
  have T1 := T1.below b4 T1.lt
  have T2 := T2.below b4 T2.lt
  have t20 := T2.c0
  have t21 := T2.c1
  have t10 := T1.c0
  have t11 := T1.c1
  have f10 := T1.free 0
  have f11 := T1.free 1
  go_wp2_with fail
  have T1 := T1.set 0 0
  refine bodyPost_ret (results_shift rfl _ _ rfl T1) rfl ?_
  have bb := (b4a.setCell (p := ⟨w.heap.size + 1, 0, none⟩) (by simp only; omega) (.int .i64 0)).setCell (p := ⟨w.heap.size + 1, 1, none⟩) (by simp only; omega) (.int .i64 0)
  exact ⟨rfl, bb⟩
theorem firstS_snoc (u : Int) (N : List Sh) (j : Nat) (h : j < N.length) (hN : ∀ k (h : k < N.length), k < j → ¬ u < N[k].at_) (hj : u < N[j].at_) : firstS u N = some N[j] := by
  unfold firstS
  rw [List.find?_eq_some_iff_getElem]
  refine ⟨by simpa using hj, j, h, rfl, fun k hk => ?_⟩
  have := hN k (by omega) hk
  simpa using this
theorem firstS_none (u : Int) (N : List Sh) (hN : ∀ k (h : k < N.length), ¬ u < N[k].at_) : firstS u N = none := by
  unfold firstS
  rw [List.find?_eq_none]
  intro s hs
  obtain ⟨k, hk, rfl⟩ := List.getElem_of_mem hs
  simpa using hN k hk
set_option maxRecDepth 100000 in
set_option maxHeartbeats 4000000 in
theorem after_yes (bs : Int) (A : Option Addr) (c : Nat) (A' : Option Addr) (c' : Nat) (fr u : Int) (L : List Sh) (Y : List Yr) (B : Nat) (w : World) (hF : Fine bs L Y fr u) (hz : ZAt w B A A' L Y) (hB : B ≤ w.heap.size) :
    Calls Try.prog 16 #[zv bs A L.length c A' Y.length c' fr, .int .i64 u] w fun e w' => ∃ y, e = .returned (shv (firstS u (nearL L Y fr y))) ∧ Below w.heap.size w w' ∧ 1 ≤ y ∧ y ≤ 9999 ∧ Civ.fst y ≤ u / 86400 ∧ u / 86400 < Civ.fst (y + 1) := by
  have hFB := fineB_yes hF
  go_enter Try.func16, Try.ntmps16
  go_wp2_with fail
  have bx := ((Below.refl w.heap.size w).alloc (Nat.le_refl _) (zo bs A L.length c A' Y.length c' fr)).alloc (by simp) (.cells #[.int .i64 0, .int .i64 0] 29)
  have HS : ((w.alloc (zo bs A L.length c A' Y.length c' fr)).alloc (.cells #[.int .i64 0, .int .i64 0] 29)).heap.size = w.heap.size + 1 + 1 := by simp
  have HB : Boxed ((w.alloc (zo bs A L.length c A' Y.length c' fr)).alloc (.cells #[.int .i64 0, .int .i64 0] 29)) w.heap.size bs A L.length c A' Y.length c' fr := by
    refine ((Boxed.new_ w).below ((Below.refl (w.heap.size + 1) _).alloc (by simp) _) (by omega))
  have T1 : Two ((w.alloc (zo bs A L.length c A' Y.length c' fr)).alloc (.cells #[.int .i64 0, .int .i64 0] 29)) (w.heap.size + 1) 0 0 := Two.new_ _ _ _ _ (by simp)
  generalize (w.alloc (zo bs A L.length c A' Y.length c' fr)).alloc (.cells #[.int .i64 0, .int .i64 0] 29) = w3 at bx HS HB T1 ⊢
  have HB := Lib.hid HB
  have HS := Lib.hid HS
  have hz3 := hz.below (bx.mono hB)
  have hw := bx.size
  refine (fine_any bs A c A' c' fr u L Y B w3 hz3 (Nat.le_trans hB hw)).mono ?_
  rintro e w4 ⟨rfl, b4⟩
  rw [hFB]
  clear hFB
  have b4a := bx.trans (b4.mono hw)
  have hz4 := hz.below (b4a.mono hB)
  have T1 := T1.below b4 T1.lt
  obtain ⟨lt, c0, c1, c2, c3⟩ := HB.out.below b4 HB.out.lt
  have hw4 := b4a.size
  go_wp2_with fail
  refine (near_any bs A c A' c' fr u L Y B w4 hF.2.ys hz4.s hz4.y (Nat.le_trans hB hw4) (Nat.le_trans hF.2.sh.few (by decide)) hF.1).mono ?_
  rintro e w5 ⟨A5, c5, y, rfl, O, b5, y1, y2, y3, y4⟩
  have hY := Lib.hid (show 1 ≤ y ∧ y ≤ 9999 ∧ Civ.fst y ≤ u / 86400 ∧ u / 86400 < Civ.fst (y + 1) from ⟨y1, y2, y3, y4⟩)
  have b5a := b4a.trans (b5.mono hw4)
  have T1 := T1.below b5 T1.lt
  have W4 : w.heap.size + 1 + 1 ≤ w4.heap.size := by have := b4.size; have := HS.out; omega
  have W5 := b5.size
  have hN : (nearL L Y fr y).length ≤ 1000 := by
    have := acc_len (L := L) (y := y - 1) hF.2.ys 3
    have := yearL_len (y := fr) hF.2.ys
    have := hF.2.sh.few
    unfold nearL
    split
    · simp only [List.length_append]; omega
    · omega
  have hR := Lib.hid (show ∃ N, N = nearL L Y fr y from ⟨_, rfl⟩)
  obtain ⟨N, hN0⟩ := hR.out
  rw [← hN0] at O hN ⊢
  replace hN0 := Lib.hid hN0
  clear hR hz3 hz4 HB c0 c1 c2 c3 lt y1 y2 y3 y4 b4 b5 b4a
  go_wp2_with fail
  go_loopw [17] (fun kv wr => ∃ j : Nat, j ≤ N.length ∧ kv = .int .i64 (j : Int) ∧ (∀ k (h : k < N.length), k < j → ¬ u < N[k].at_) ∧ OwnS wr w4.heap.size (.slice A5 N.length c5) N ∧ Below w.heap.size w wr ∧ w5.heap.size ≤ wr.heap.size ∧ Two wr (w.heap.size + 1) 0 0) (fun kv _ => N.length - (intOf kv).toNat)
  case atStart => exact ⟨0, Nat.zero_le _, rfl, fun k h h2 => absurd h2 (by omega), O, b5a, Nat.le_refl _, T1⟩
  case round =>
    obtain ⟨j, hj, rfl, hU, O, b, hsz, T1⟩ := hrel
    have hw6 := b.size
    by_cases hlt : j < N.length
    · obtain ⟨ad, rfl, hbl, p0, p1⟩ := O.at_ j hlt
      have i0 : (0 : Int) ≤ (j : Int) := by omega
      have i1 : (j : Int) < (N.length : Int) := by omega
      have hsn := Lib.hid (fun h => firstS_snoc u N j hlt hU h)
      have hun := Lib.hid (show ¬ u < N[j].at_ → ∀ k (h : k < N.length), k < j + 1 → ¬ u < N[k].at_ from fun q k h h2 => by
        rcases Nat.lt_or_eq_of_le (Nat.le_of_lt_succ h2) with h3 | rfl
        · exact hU k h h3
        · exact q)
      obtain ⟨P, hP⟩ : ∃ P : Sh, P = N[j] := ⟨_, rfl⟩
      rw [← hP] at p0 p1 hsn hun
      clear hP
      have O1 := O.alloc (.cells #[.int .i64 P.at_, .int .i64 P.off] 29)
      have bb := b.alloc hw6 (.cells #[.int .i64 P.at_, .int .i64 P.off] 29)
      have T1 := T1.below ((Below.refl wr.heap.size wr).alloc (Nat.le_refl _) (.cells #[.int .i64 P.at_, .int .i64 P.off] 29)) T1.lt
      by_cases q : u < P.at_
      · have qt := decide_eq_true q
        have t10 := T1.c0
        have t11 := T1.c1
        have f10 := T1.free 0
        have f11 := T1.free 1
        go_wp2_with fail
        have T1 := T1.set P.at_ P.off
        have bb := (bb.setCell (p := ⟨w.heap.size + 1, 0, none⟩) (by simp only; omega) (.int .i64 P.at_)).setCell (p := ⟨w.heap.size + 1, 1, none⟩) (by simp only; omega) (.int .i64 P.off)
        refine bodyPost_ret (results_shift rfl _ _ rfl T1) rfl ?_
        exact ⟨y, by rw [← hN0.out, hsn.out q]; rfl, bb, hY.out⟩
      · have qt := decide_eq_false q
        go_wp2_with fail
        go_roundw
        case rel => exact ⟨j + 1, by omega, by simp, hun.out q, O1, bb, by simp; omega, T1⟩
        case measure => simp [intOf]; omega
    · obtain rfl : j = N.length := by omega
      have hn := Lib.hid (firstS_none u N fun k h => hU k h h)
      have t10 := T1.c0
      have t11 := T1.c1
      have f10 := T1.free 0
      have f11 := T1.free 1
      go_wp2_with fail
      have T1 := T1.set 0 0
      have bb := (b.setCell (p := ⟨w.heap.size + 1, 0, none⟩) (by simp only; omega) (.int .i64 0)).setCell (p := ⟨w.heap.size + 1, 1, none⟩) (by simp only; omega) (.int .i64 0)
      refine bodyPost_ret (results_shift rfl _ _ rfl T1) rfl ?_
      exact ⟨y, by rw [← hN0.out, hn.out]; rfl, bb, hY.out⟩
theorem after_no (bs : Int) (A : Option Addr) (c : Nat) (A' : Option Addr) (c' : Nat) (fr u : Int) (L : List Sh) (Y : List Yr) (B : Nat) (w : World) (hF : ¬ Fine bs L Y fr u) (hz : ZAt w B A A' L Y) (hB : B ≤ w.heap.size) :
    Calls Try.prog 16 #[zv bs A L.length c A' Y.length c' fr, .int .i64 u] w fun e w' => e = .returned (shv none) ∧ Below w.heap.size w w' := by
  have hFB := fineB_no hF
  go_enter Try.func16, Try.ntmps16
  go_wp2_with fail
  have bx := ((Below.refl w.heap.size w).alloc (Nat.le_refl _) (zo bs A L.length c A' Y.length c' fr)).alloc (by simp) (.cells #[.int .i64 0, .int .i64 0] 29)
  have T1 : Two ((w.alloc (zo bs A L.length c A' Y.length c' fr)).alloc (.cells #[.int .i64 0, .int .i64 0] 29)) (w.heap.size + 1) 0 0 := Two.new_ _ _ _ _ (by simp)
  generalize (w.alloc (zo bs A L.length c A' Y.length c' fr)).alloc (.cells #[.int .i64 0, .int .i64 0] 29) = w3 at bx T1 ⊢
  have hz3 := hz.below (bx.mono hB)
  have hw := bx.size
  refine (fine_any bs A c A' c' fr u L Y B w3 hz3 (Nat.le_trans hB hw)).mono ?_
  rintro e w4 ⟨rfl, b4⟩
  rw [hFB]
  clear hFB
  have b4a := bx.trans (b4.mono hw)
  have T1 := T1.below b4 T1.lt
  have t10 := T1.c0
  have t11 := T1.c1
  have f10 := T1.free 0
  have f11 := T1.free 1
  go_wp2_with fail
  have T1 := T1.set 0 0
  refine bodyPost_ret (results_shift rfl _ _ rfl T1) rfl ?_
  have bb := (b4a.setCell (p := ⟨w.heap.size + 1, 0, none⟩) (by simp only; omega) (.int .i64 0)).setCell (p := ⟨w.heap.size + 1, 1, none⟩) (by simp only; omega) (.int .i64 0)
  exact ⟨rfl, bb⟩
end Go.Proofs.Ytbnchbcdgffkaaa
