/- DiskRoom: the walk. -/
import Derived.Test.YtelkllhibkefbaaCuts
namespace Go.Proofs.Ytelkllhibkefbaa
open Go.RowKit
set_option linter.unusedVariables false
attribute [local go_sem ↓] Go.wp_at_zero Go.wp_at_succ
theorem wpList_append_g {P : Program} (w : World) {ops : Array Oper} {rest : List Oper} {o : Oper} {a : Act} {Q : Exit → Act → World → Prop} (hgd : Region.wanted o (yielded ops a.tmps) = true) (s x : Operand) (t : TypeId)
    (ho : o.op = .call { callee := .builtin .append, args := #[s, x], argTypes := #[t, t] })
    (base : Nat) (e : TypeId) (i : TypeInfo) (z : Value) (size bytes : Nat) (ht : P.underlying t = some (.slice e)) (hi : P.info? e = some i) (hz : i.zero = some z)
    (hsize : i.size = size) (hby : i.bytes = bytes) (hzs : z.cells.size = size) (hsz : 0 < size)
    (v : Value) (n : Nat) (xs : List Value) (hs : a.eval s = v) (hown : w.ownsRow base e size v n xs)
    (B : Nat) (A : Option Addr) (m c : Nat) (news : List Value) (hx : a.eval x = .slice A m c) (hr : Reads w B size A m news) (h1 : ∀ u ∈ news, u.oneCell' = true)
    (h63 : n + m ≤ maxLen) (hbytes : (n + m) * bytes ≤ 140737488355328) (hbase : base ≤ w.heap.size)
    (h : ∀ v' w', w'.ownsRow base e size v' (n + m) (xs ++ news) → w.grownBy w' v.ownBlock → (v'.ownBlock = v.ownBlock ∨ v'.ownBlock = some w.heap.size) → wpList P ops Q rest (a.put o.dst v') w') : wpList P ops Q (o :: rest) a w :=
  BigFrame.wpList_want hgd fun _ hK => wp_append_any w s x t ho base e i z size bytes ht hi hz hsize hby hzs hsz v n xs hs hown B A m c news hx hr h1 h63 hbytes hbase fun v' w' h2 h3 h4 => hK _ _ (h v' w' h2 h3 h4)
set_option maxRecDepth 100000 in
set_option maxHeartbeats 4000000 in
theorem room_law (size : Int) (A : Option Addr) (c B : Nat) (L : List Op) (A0 : Option Addr) (c0 : Nat) (k : List Nat) (w : World) (ha : OpsAt w B A L) (hB : B ≤ w.heap.size) (hl : L.length ≤ maxLen) (hk : BytesAt w B A0 k) (hsk : Small k) (hrk : Room A0 k.length c0) :
    Calls Try.prog 4 #[.int .i64 size, .slice A L.length c, .slice A0 k.length c0] w fun e w' => e = .returned (.bool true) ∧ Below w.heap.size w w' := by
  obtain ⟨i0, hi, hz0, hz1, hz2⟩ := info_parts byte_row
  have hkm : k.length ≤ 9223372036854775807 := by have := hrk.le; have := hrk.max; unfold maxLen at this; omega
  go_enter Try.func4, Try.ntmps4
  go_wp2_with fail
  refine (first_any _).mono ?_
  rintro e w1 ⟨rfl, b1⟩
  have hP := played_any size A c B L w1 (ha.below (b1.mono hB)) (Nat.le_trans hB b1.size) hl
  go_wp2_with fail
  refine hP.mono ?_
  clear hP
  rintro e w2 (⟨rfl, b2⟩ | ⟨d, A2, c2, rfl, D, b2, hdw, _, hT, z0, z1⟩)
  · replace b2 := b1.trans (b2.mono b1.size)
    clear b1
    go_wp2_with fail
    refine (first_any _).mono ?_
    rintro e w3 ⟨rfl, b3⟩
    replace b3 := b2.trans (b3.mono b2.size)
    clear b2
    go_wp2_with fail
    go_ret
    exact ⟨rfl, b3⟩
  · replace b2 := b1.trans (b2.mono b1.size)
    replace hdw := Nat.le_trans b1.size hdw
    clear b1
    obtain ⟨r0, r1, hs, hn⟩ := run_start z0 z1 hT
    generalize run ⟨size, 0, []⟩ L = S at *
    obtain ⟨r, s, l⟩ := S
    simp only at r0 r1 hs hn
    replace D : DiskAt w2 d r s A2 c2 l := D
    rcases Nat.lt_or_ge 20000 k.length with hlong | hshort
    · have hlong1 : decide ((20000 : Int) < (k.length : Int)) = true := by simp; omega
      go_wp2_with fail
      refine (first_any _).mono ?_
      rintro e w3 ⟨rfl, b3⟩
      replace b3 := b2.trans (b3.mono b2.size)
      clear b2
      go_wp2_with fail
      go_ret
      exact ⟨rfl, b3⟩
    have hlong : decide ((20000 : Int) < (k.length : Int)) = false := by simp; omega
    go_wp2_with fail
    refine (bytes_of D (by omega)).mono ?_
    rintro e w3 ⟨A3, c3, rfl, O3, b3⟩
    have D3 := D.quiet (below_quiet2 b3)
    replace b3 := b2.trans (b3.mono b2.size)
    have hdlt := D.lt
    clear D b2
    go_wp2_with fail
    refine (synced_any D3).mono ?_
    rintro e w4 ⟨rfl, rfl⟩
    have parts : ((l.length : Int) ≤ r ∧ (k.length : Int) ≤ r - l.length ∧ (k.length : Int) ≤ r) ∨ ((l.length : Int) ≤ r ∧ ¬ ((k.length : Int) ≤ r - l.length) ∧ (k.length : Int) ≤ r) ∨ ((l.length : Int) ≤ r ∧ ¬ ((k.length : Int) ≤ r - l.length) ∧ ¬ ((k.length : Int) ≤ r)) ∨ (¬ ((l.length : Int) ≤ r) ∧ ¬ ((k.length : Int) ≤ r - l.length) ∧ (k.length : Int) ≤ r) ∨ (¬ ((l.length : Int) ≤ r) ∧ ¬ ((k.length : Int) ≤ r - l.length) ∧ ¬ ((k.length : Int) ≤ r)) := by omega
    have hw0 : IntKind.i64.wrap (r - (l.length : Int)) = r - (l.length : Int) := by simp [IntKind.wrap, IntKind.bits, IntKind.signed]; omega
    rcases parts with ⟨p1, p2, p3⟩ | ⟨p1, p2, p3⟩ | ⟨p1, p2, p3⟩ | ⟨p1, p2, p3⟩ | ⟨p1, p2, p3⟩
    · go_wp2_with fail
      refine (room_any D3).mono ?_
      rintro e w4 ⟨rfl, rfl⟩
      go_wp2_with fail
      refine (room_any D3).mono ?_
      rintro e w4 ⟨rfl, rfl⟩
      go_wp2_with fail
      refine (append_yes D3 (hk.below (b3.mono hB)) (Nat.le_trans hB b3.size) hrk hsk (by omega) (by omega) r0 r1 p2).mono ?_
      rintro e w4 ⟨A4, c4, rfl, D4, g4⟩
      have HL := Lib.hid (List.length_append : (l ++ k).length = l.length + k.length)
      generalize hX : l ++ k = X at *
      have O4 := O3.grown g4 (O3.off hdlt)
      have b4 := b3.grown g4 b3.size (fun k hk => by injection hk with hk; omega)
      clear O3 b3 g4 D3
      have HX := Lib.hid hX
      clear hX
      have hxl : X.length ≤ 40000 := by have := HL.out; omega
      go_wp2_with fail
      refine (bytes_of D4 (by omega)).mono ?_
      rintro e w5 ⟨A5, c5, rfl, O5, b5⟩
      replace O4 := O4.below b5 (Nat.le_refl _)
      have D5 := D4.quiet (below_quiet2 b5)
      replace b5 := b4.trans (b5.mono b4.size)
      clear D4 b4
      go_wp2_with fail
      refine (synced_any D5).mono ?_
      rintro e w6 ⟨rfl, rfl⟩
      go_wp2_with fail
      refine (copy_any A3 c3 _ l _ O4.reads (by omega)).mono ?_
      rintro e w6 ⟨A6, c6, rfl, O6, b6⟩
      have g6 := below_quiet2 b6
      have hs6 := b6.size
      replace b6 := b5.trans (b6.mono b5.size)
      clear O4
      have hk6 := hk.below (b6.mono hB)
      go_wp2_with (at_builtin; refine wpList_append_g _ rfl (.tmp 66) (.tmp 67) 26 rfl w5.heap.size 5 i0 _ 1 1 Try.underlying26 hi hz0 hz1 hz2 rfl (by omega) _ _ _ rfl O6 B A0 k.length c0 (bys k) rfl hk6 (bys_one k) (by simp only [maxLen]; omega) (by omega) hs6 ?_; intro v7 w7 o7 g7 _; have O7 := own_more o7 rfl; rw [HX.out] at O7; obtain ⟨A7, c7, rfl⟩ := O7.form)
      have g57 := grown_to g6 g7
      have D7 := D5.away g57 (fun k hk => (World.ownsRow.lt O6 k hk).1)
      replace O5 := O5.grown g57 (O5.later O6 (Nat.le_refl _))
      have b7 := b6.grown g7 b6.size (fun k hk => Nat.le_trans b5.size (World.ownsRow.lt O6 k hk).1)
      clear D5 b5 O6 g6 hs6 b6 hk6 g57 g7 o7
      have Q := bytes_any A5 A7 c5 c7 _ _ X X w7 O5.reads O7.reads D7.small D7.small
      rw [decide_eq_true rfl] at Q
      clear O7
      refine Q.mono ?_
      clear Q
      rintro e w8 ⟨rfl, rfl⟩
      have hk7 := hk.below (b7.mono hB)
      go_wp2_with fail
      refine (swap_yes D7 hk7 hrk hsk (by omega) p3).mono ?_
      rintro e w8 ⟨A8, c8, rfl, D8, g8⟩
      have b8 := b7.grown g8 b7.size (fun k hk => by injection hk with hk; omega)
      clear D7 b7 g8 O5 hk7
      have K := crash_any D8 0 (by omega) (by omega) (Nat.le_refl _) (by omega)
      rw [show kept k.length k.length 0 = k.length by unfold kept; omega, List.take_length] at K
      go_wp2_with fail
      refine K.mono ?_
      rintro e w9 ⟨A9, c9, rfl, D9, g9⟩
      have b9 := b8.grown g9 b8.size (fun k hk => by injection hk with hk; omega)
      clear D8 b8 g9 K
      go_wp2_with fail
      refine (first_any _).mono ?_
      rintro e w10 ⟨rfl, b10⟩
      have D10 := D9.quiet (below_quiet2 b10)
      replace b10 := b9.trans (b10.mono b9.size)
      clear D9 b9
      go_wp2_with fail
      refine (bytes_of D10 (by omega)).mono ?_
      rintro e w11 ⟨A11, c11, rfl, O11, b11⟩
      have D11 := D10.quiet (below_quiet2 b11)
      replace b11 := b10.trans (b11.mono b10.size)
      clear D10 b10
      have hk11 := hk.below (b11.mono hB)
      have Q := bytes_any A11 A0 c11 c0 _ _ k k w11 O11.reads hk11 hsk hsk
      rw [decide_eq_true rfl] at Q
      clear O11 hk11
      go_wp2_with fail
      refine Q.mono ?_
      rintro e w12 ⟨rfl, rfl⟩
      clear Q
      go_wp2_with fail
      refine (synced_any D11).mono ?_
      rintro e w12 ⟨rfl, rfl⟩
      go_wp2_with fail
      go_ret
      exact ⟨ret_bool (by simp), b11⟩
    · go_wp2_with fail
      refine (room_any D3).mono ?_
      rintro e w4 ⟨rfl, rfl⟩
      go_wp2_with fail
      refine (room_any D3).mono ?_
      rintro e w4 ⟨rfl, rfl⟩
      go_wp2_with fail
      refine (append_no D3 (Nat.le_trans hrk.le hrk.max) (by omega) r0 r1 (by omega)).mono ?_
      rintro e w4 ⟨rfl, D4, g4⟩
      replace g4 := grown_one (d := d) g4
      have O4 := O3.grown g4 (O3.off hdlt)
      have b4 := b3.grown g4 b3.size (fun k hk => by injection hk with hk; omega)
      clear O3 b3 g4 D3
      go_wp2_with fail
      refine (bytes_of D4 (by omega)).mono ?_
      rintro e w5 ⟨A5, c5, rfl, O5, b5⟩
      replace O4 := O4.below b5 (Nat.le_refl _)
      have D5 := D4.quiet (below_quiet2 b5)
      replace b5 := b4.trans (b5.mono b4.size)
      clear D4 b4
      go_wp2_with fail
      refine (synced_any D5).mono ?_
      rintro e w6 ⟨rfl, rfl⟩
      go_wp2_with fail
      have D7 := D5
      have b7 := b5
      clear D5 b5
      have Q := bytes_any A5 A3 c5 c3 _ _ l l w5 O5.reads O4.reads D7.small D7.small
      rw [decide_eq_true rfl] at Q
      clear O4
      refine Q.mono ?_
      clear Q
      rintro e w8 ⟨rfl, rfl⟩
      have hk7 := hk.below (b7.mono hB)
      go_wp2_with fail
      refine (swap_yes D7 hk7 hrk hsk (by omega) p3).mono ?_
      rintro e w8 ⟨A8, c8, rfl, D8, g8⟩
      have b8 := b7.grown g8 b7.size (fun k hk => by injection hk with hk; omega)
      clear D7 b7 g8 O5 hk7
      have K := crash_any D8 0 (by omega) (by omega) (Nat.le_refl _) (by omega)
      rw [show kept k.length k.length 0 = k.length by unfold kept; omega, List.take_length] at K
      go_wp2_with fail
      refine K.mono ?_
      rintro e w9 ⟨A9, c9, rfl, D9, g9⟩
      have b9 := b8.grown g9 b8.size (fun k hk => by injection hk with hk; omega)
      clear D8 b8 g9 K
      go_wp2_with fail
      refine (first_any _).mono ?_
      rintro e w10 ⟨rfl, b10⟩
      have D10 := D9.quiet (below_quiet2 b10)
      replace b10 := b9.trans (b10.mono b9.size)
      clear D9 b9
      go_wp2_with fail
      refine (bytes_of D10 (by omega)).mono ?_
      rintro e w11 ⟨A11, c11, rfl, O11, b11⟩
      have D11 := D10.quiet (below_quiet2 b11)
      replace b11 := b10.trans (b11.mono b10.size)
      clear D10 b10
      have hk11 := hk.below (b11.mono hB)
      have Q := bytes_any A11 A0 c11 c0 _ _ k k w11 O11.reads hk11 hsk hsk
      rw [decide_eq_true rfl] at Q
      clear O11 hk11
      go_wp2_with fail
      refine Q.mono ?_
      rintro e w12 ⟨rfl, rfl⟩
      clear Q
      go_wp2_with fail
      refine (synced_any D11).mono ?_
      rintro e w12 ⟨rfl, rfl⟩
      go_wp2_with fail
      go_ret
      exact ⟨ret_bool (by simp), b11⟩
    · go_wp2_with fail
      refine (room_any D3).mono ?_
      rintro e w4 ⟨rfl, rfl⟩
      go_wp2_with fail
      refine (room_any D3).mono ?_
      rintro e w4 ⟨rfl, rfl⟩
      go_wp2_with fail
      refine (append_no D3 (Nat.le_trans hrk.le hrk.max) (by omega) r0 r1 (by omega)).mono ?_
      rintro e w4 ⟨rfl, D4, g4⟩
      replace g4 := grown_one (d := d) g4
      have O4 := O3.grown g4 (O3.off hdlt)
      have b4 := b3.grown g4 b3.size (fun k hk => by injection hk with hk; omega)
      clear O3 b3 g4 D3
      go_wp2_with fail
      refine (bytes_of D4 (by omega)).mono ?_
      rintro e w5 ⟨A5, c5, rfl, O5, b5⟩
      replace O4 := O4.below b5 (Nat.le_refl _)
      have D5 := D4.quiet (below_quiet2 b5)
      replace b5 := b4.trans (b5.mono b4.size)
      clear D4 b4
      go_wp2_with fail
      refine (synced_any D5).mono ?_
      rintro e w6 ⟨rfl, rfl⟩
      go_wp2_with fail
      have D7 := D5
      have b7 := b5
      clear D5 b5
      have Q := bytes_any A5 A3 c5 c3 _ _ l l w5 O5.reads O4.reads D7.small D7.small
      rw [decide_eq_true rfl] at Q
      clear O4
      refine Q.mono ?_
      clear Q
      rintro e w8 ⟨rfl, rfl⟩
      have hk7 := hk.below (b7.mono hB)
      go_wp2_with fail
      refine (swap_no D7 (Nat.le_trans hrk.le hrk.max) (by omega)).mono ?_
      rintro e w8 ⟨rfl, rfl⟩
      go_wp2_with fail
      refine (first_any _).mono ?_
      rintro e w10 ⟨rfl, b10⟩
      have D10 := D7.quiet (below_quiet2 b10)
      replace O5 := O5.below b10 (Nat.le_refl _)
      replace b10 := b7.trans (b10.mono b7.size)
      clear D7 b7 hk7
      go_wp2_with fail
      refine (room_any D10).mono ?_
      rintro e w11 ⟨rfl, rfl⟩
      go_wp2_with fail
      refine (bytes_of D10 (by omega)).mono ?_
      rintro e w11 ⟨A11, c11, rfl, O11, b11⟩
      replace O5 := O5.below b11 (Nat.le_refl _)
      replace b11 := b10.trans (b11.mono b10.size)
      clear b10
      have Q := bytes_any A11 A5 c11 c5 _ _ l l w11 O11.reads O5.reads D10.small D10.small
      rw [decide_eq_true rfl] at Q
      clear O11 D10 O5
      go_wp2_with fail
      refine Q.mono ?_
      rintro e w12 ⟨rfl, rfl⟩
      clear Q
      go_wp2_with fail
      go_ret
      exact ⟨rfl, b11⟩
    · go_wp2_with fail
      refine (room_any D3).mono ?_
      rintro e w4 ⟨rfl, rfl⟩
      go_wp2_with fail
      refine (append_no D3 (Nat.le_trans hrk.le hrk.max) (by omega) r0 r1 (by omega)).mono ?_
      rintro e w4 ⟨rfl, D4, g4⟩
      replace g4 := grown_one (d := d) g4
      have O4 := O3.grown g4 (O3.off hdlt)
      have b4 := b3.grown g4 b3.size (fun k hk => by injection hk with hk; omega)
      clear O3 b3 g4 D3
      go_wp2_with fail
      refine (bytes_of D4 (by omega)).mono ?_
      rintro e w5 ⟨A5, c5, rfl, O5, b5⟩
      replace O4 := O4.below b5 (Nat.le_refl _)
      have D5 := D4.quiet (below_quiet2 b5)
      replace b5 := b4.trans (b5.mono b4.size)
      clear D4 b4
      go_wp2_with fail
      refine (synced_any D5).mono ?_
      rintro e w6 ⟨rfl, rfl⟩
      go_wp2_with fail
      have D7 := D5
      have b7 := b5
      clear D5 b5
      have Q := bytes_any A5 A3 c5 c3 _ _ l l w5 O5.reads O4.reads D7.small D7.small
      rw [decide_eq_true rfl] at Q
      clear O4
      refine Q.mono ?_
      clear Q
      rintro e w8 ⟨rfl, rfl⟩
      have hk7 := hk.below (b7.mono hB)
      go_wp2_with fail
      refine (swap_yes D7 hk7 hrk hsk (by omega) p3).mono ?_
      rintro e w8 ⟨A8, c8, rfl, D8, g8⟩
      have b8 := b7.grown g8 b7.size (fun k hk => by injection hk with hk; omega)
      clear D7 b7 g8 O5 hk7
      have K := crash_any D8 0 (by omega) (by omega) (Nat.le_refl _) (by omega)
      rw [show kept k.length k.length 0 = k.length by unfold kept; omega, List.take_length] at K
      go_wp2_with fail
      refine K.mono ?_
      rintro e w9 ⟨A9, c9, rfl, D9, g9⟩
      have b9 := b8.grown g9 b8.size (fun k hk => by injection hk with hk; omega)
      clear D8 b8 g9 K
      go_wp2_with fail
      refine (first_any _).mono ?_
      rintro e w10 ⟨rfl, b10⟩
      have D10 := D9.quiet (below_quiet2 b10)
      replace b10 := b9.trans (b10.mono b9.size)
      clear D9 b9
      go_wp2_with fail
      refine (bytes_of D10 (by omega)).mono ?_
      rintro e w11 ⟨A11, c11, rfl, O11, b11⟩
      have D11 := D10.quiet (below_quiet2 b11)
      replace b11 := b10.trans (b11.mono b10.size)
      clear D10 b10
      have hk11 := hk.below (b11.mono hB)
      have Q := bytes_any A11 A0 c11 c0 _ _ k k w11 O11.reads hk11 hsk hsk
      rw [decide_eq_true rfl] at Q
      clear O11 hk11
      go_wp2_with fail
      refine Q.mono ?_
      rintro e w12 ⟨rfl, rfl⟩
      clear Q
      go_wp2_with fail
      refine (synced_any D11).mono ?_
      rintro e w12 ⟨rfl, rfl⟩
      go_wp2_with fail
      go_ret
      exact ⟨ret_bool (by simp), b11⟩
    · go_wp2_with fail
      refine (room_any D3).mono ?_
      rintro e w4 ⟨rfl, rfl⟩
      go_wp2_with fail
      refine (append_no D3 (Nat.le_trans hrk.le hrk.max) (by omega) r0 r1 (by omega)).mono ?_
      rintro e w4 ⟨rfl, D4, g4⟩
      replace g4 := grown_one (d := d) g4
      have O4 := O3.grown g4 (O3.off hdlt)
      have b4 := b3.grown g4 b3.size (fun k hk => by injection hk with hk; omega)
      clear O3 b3 g4 D3
      go_wp2_with fail
      refine (bytes_of D4 (by omega)).mono ?_
      rintro e w5 ⟨A5, c5, rfl, O5, b5⟩
      replace O4 := O4.below b5 (Nat.le_refl _)
      have D5 := D4.quiet (below_quiet2 b5)
      replace b5 := b4.trans (b5.mono b4.size)
      clear D4 b4
      go_wp2_with fail
      refine (synced_any D5).mono ?_
      rintro e w6 ⟨rfl, rfl⟩
      go_wp2_with fail
      have D7 := D5
      have b7 := b5
      clear D5 b5
      have Q := bytes_any A5 A3 c5 c3 _ _ l l w5 O5.reads O4.reads D7.small D7.small
      rw [decide_eq_true rfl] at Q
      clear O4
      refine Q.mono ?_
      clear Q
      rintro e w8 ⟨rfl, rfl⟩
      have hk7 := hk.below (b7.mono hB)
      go_wp2_with fail
      refine (swap_no D7 (Nat.le_trans hrk.le hrk.max) (by omega)).mono ?_
      rintro e w8 ⟨rfl, rfl⟩
      go_wp2_with fail
      refine (first_any _).mono ?_
      rintro e w10 ⟨rfl, b10⟩
      have D10 := D7.quiet (below_quiet2 b10)
      replace O5 := O5.below b10 (Nat.le_refl _)
      replace b10 := b7.trans (b10.mono b7.size)
      clear D7 b7 hk7
      go_wp2_with fail
      refine (room_any D10).mono ?_
      rintro e w11 ⟨rfl, rfl⟩
      go_wp2_with fail
      refine (bytes_of D10 (by omega)).mono ?_
      rintro e w11 ⟨A11, c11, rfl, O11, b11⟩
      replace O5 := O5.below b11 (Nat.le_refl _)
      replace b11 := b10.trans (b11.mono b10.size)
      clear b10
      have Q := bytes_any A11 A5 c11 c5 _ _ l l w11 O11.reads O5.reads D10.small D10.small
      rw [decide_eq_true rfl] at Q
      clear O11 D10 O5
      go_wp2_with fail
      refine Q.mono ?_
      rintro e w12 ⟨rfl, rfl⟩
      clear Q
      go_wp2_with fail
      go_ret
      exact ⟨rfl, b11⟩
end Go.Proofs.Ytelkllhibkefbaa
