/- BoxPlays: any calls, copies too: the walk. -/
import Derived.Test.YtegjpfdbfjfolaaRef
import Derived.Deep.RegionHeld3
import Derived.Deep.DrawnRows
namespace Go.Proofs.Ytegjpfdbfjfolaa
open Go.RowKit
attribute [local go_sem ↓] Go.wp_at_zero Go.wp_at_succ

/-- A slice of operations that reads as a list: of each its kind and its number. -/
def OpsAt (w : World) (B : Nat) (A : Option Addr) (n : Nat) (k : Nat → Int) (m : Nat → Int) : Prop :=
  0 < n → ∃ ad, A = some ad ∧ ad.block < B ∧ ∀ i, i < n → w.cell? (ad.add (i * 2)) = some (.int .i64 (k i)) ∧ w.cell? ⟨(ad.add (i * 2)).block, (ad.add (i * 2)).off + 1, none⟩ = some (.int .i64 (m i))
theorem OpsAt.below {w w' : World} {B n : Nat} {A : Option Addr} {k m : Nat → Int} (h : OpsAt w B A n k m) (hb : Below B w w') : OpsAt w' B A n k m := by
  intro hn
  obtain ⟨ad, e, hB, hc⟩ := h hn
  refine ⟨ad, e, hB, fun i hi => ?_⟩
  obtain ⟨h1, h2⟩ := hc i hi
  have hbl : (ad.add (i * 2)).block = ad.block := block_of_add _ _
  exact ⟨(hb.cell (by rw [hbl]; exact hB)).trans h1, (hb.cell (by show (ad.add (i * 2)).block < B; rw [hbl]; exact hB)).trans h2⟩
/-- The program's box and the document's, with the same numbers. -/
structure Play (W : World) (n b ch x : Nat) (v : Value) (w : World) (l : List Int) : Prop where
  box : BoxAt w b ch n l
  ref : RefAt W.heap.size w x n l v
  bel : Below W.heap.size W w
  ltc : W.heap.size ≤ ch
  len : l.length ≤ n
section
variable {W w w' : World} {n b ch x : Nat} {v : Value} {l l' : List Int}
theorem Play.size (h : Play W n b ch x v w l) : W.heap.size ≤ w.heap.size := h.bel.size
theorem chan_ne {B : Nat} {w : World} {b c cap x n : Nat} {l k : List Int} {v : Value} (h : BoxAt w b c cap l) (r : RefAt B w x n k v) : c ≠ x ∧ v.ownBlock ≠ some c := by
  obtain ⟨_, s, t, h2⟩ := h
  refine ⟨?_, ?_⟩
  · rintro rfl; rw [r.blk] at h2; cases h2
  · intro e
    have := own_notBox r.own c _ e h2
    cases this
theorem Play.boxed (h : Play W n b ch x v w l) (g : w.grownBy w' (some ch)) (hb : BoxAt w' b ch n l') : BoxAt w' b ch n l' ∧ RefAt W.heap.size w' x n l v ∧ Below W.heap.size W w' := by
  obtain ⟨h1, h2⟩ := chan_ne h.box h.ref
  exact ⟨hb, h.ref.grown g (by simpa using h1) (.inr h2), h.bel.grown g h.size (by intro k e; injection e with e; have := h.ltc; omega)⟩
theorem Play.quiet (h : Play W n b ch x v w l) (g : w.grownBy w' none) : Play W n b ch x v w' l :=
  ⟨h.box.grown g (by simp) (by simp), h.ref.quiet g, h.bel.grown g h.size (by simp), h.ltc, h.len⟩
theorem Play.named (h : Play W n b ch x v w l) : ∃ (L : List Int) (A : Option Addr) (c : Nat), Play W n b ch x (.slice A L.length c) w L := by
  obtain ⟨A, c, rfl⟩ := own_form h.ref.own
  exact ⟨l, A, c, h⟩
theorem Play.aside {c : Nat} (h : Play W n b ch x v w l) (g : w.grownBy w' (some c)) (h1 : c ≠ b ∧ c ≠ ch ∧ c ≠ x ∧ v.ownBlock ≠ some c ∧ W.heap.size ≤ c) : Play W n b ch x v w' l :=
  ⟨h.box.grown g (by simpa using h1.1) (by simpa using h1.2.1), h.ref.grown g (by simpa using h1.2.2.1) (.inr h1.2.2.2.1), h.bel.grown g h.size (by intro k e; injection e with e; have := h1.2.2.2.2; omega), h.ltc, h.len⟩
/-- Put and Take of a box whose content nobody asks for. -/
theorem put_some {b c cap : Nat} {l : List Int} (h : BoxAt w b c cap l) (m : Int) :
    Calls Try.prog 11 #[.pointer (some ⟨b, 0, none⟩), .int .i64 m] w fun e w' => ∃ (r : Int) (l' : List Int), e = .returned (.int .i64 r) ∧ BoxAt w' b c cap l' ∧ w.grownBy w' (some c) := by
  rcases Nat.lt_or_ge l.length cap with hr | hr
  · exact (put_yes h hr m).mono fun e w' ⟨he, hb, ht⟩ => ⟨0, _, he, hb, ht.1⟩
  · exact (put_no h hr m).mono fun e w' ⟨he, hw⟩ => ⟨9, l, he, hw ▸ h, hw ▸ World.grownBy.refl _ _⟩
theorem take_some_ {b c cap : Nat} {l : List Int} (h : BoxAt w b c cap l) :
    Calls Try.prog 13 #[.pointer (some ⟨b, 0, none⟩)] w fun e w' => ∃ (r : Int) (t : Bool) (l' : List Int), e = .returned (.tuple #[.int .i64 r, .bool t]) ∧ BoxAt w' b c cap l' ∧ w.grownBy w' (some c) := by
  cases l with
  | nil => exact (take_no h).mono fun e w' ⟨he, hw⟩ => ⟨0, false, [], he, hw ▸ h, hw ▸ World.grownBy.refl _ _⟩
  | cons y t => exact (take_yes h).mono fun e w' ⟨he, hb, ht⟩ => ⟨y, true, _, he, hb, ht.1⟩
theorem drew_one (w : World) : w.grownBy w.drew none := ⟨rfl, rfl, rfl, Nat.le_refl _, fun _ _ _ => rfl⟩
end
set_option maxRecDepth 100000 in
set_option maxHeartbeats 4000000 in
theorem plays_ops (sz : Int) (A : Option Addr) (len c : Nat) (k m : Nat → Int) (w : World) (hs1 : -9223372036854775808 ≤ sz) (hs2 : sz ≤ 9223372036854775807) (ha : OpsAt w w.heap.size A len k m) (hl : len ≤ maxLen) :
    Calls Try.prog 7 #[.int .i64 sz, .slice A len c] w fun e w' => e = .returned (.bool true) ∧ Below w.heap.size w w' := by
  unfold maxLen at hl
  by_cases hsz : 1 ≤ sz ∧ sz ≤ 1000
  · obtain ⟨n, rfl⟩ := Int.eq_ofNat_of_zero_le (show 0 ≤ sz by omega)
    by_cases hlen : len ≤ 300
    · have hd : decide ((300 : Int) < (len : Int)) = false := by simp; omega
      have hd1 : decide ((1000 : Int) < (n : Int)) = false := by simp; omega
      have hn1 : 1 ≤ n := by omega
      have hn2 : n ≤ 1000 := by omega
      go_enter Try.func7, Try.ntmps7
      go_wp2_with fail
      refine (first_any _).mono ?_
      rintro e w1 ⟨rfl, b1⟩
      have hw1 := b1.size
      go_wp2_with fail
      refine (new_yes n hn1 hn2 _).mono ?_
      rintro e w2 ⟨rfl, rfl⟩
      have hn := newBox_at w1 n
      have b2 : Below w.heap.size w (newBox w1 n) := b1.trans ((newBox_below w1 n).mono hw1)
      have hns := newBox_size w1 n
      generalize newBox w1 n = w2 at hn b2 hns ⊢
      obtain ⟨b, hb⟩ : ∃ b, b = w1.heap.size + 1 := ⟨_, rfl⟩
      obtain ⟨ch, hch⟩ : ∃ b, b = w1.heap.size := ⟨_, rfl⟩
      rw [← hb, ← hch] at hn
      rw [← hb]
      have hcw : w.heap.size ≤ ch := by omega
      clear hb hns hch hw1 b1
      have hxblk : (w2.alloc (.cells #[.int .i64 (n : Int), .slice none 0 0] 43)).heap[w2.heap.size]? = some (.cells #[.int .i64 (n : Int), .slice none 0 0] 43 (0, 0)) := heap_alloc_new w2 _
      have P0 : Play w n b ch w2.heap.size (.slice none 0 0) (w2.alloc (.cells #[.int .i64 (n : Int), .slice none 0 0] 43)) [] :=
        ⟨hn.alloc _, ⟨hxblk, World.ownsRow_nil _ _ _ _, b2.size⟩, b2.alloc b2.size _, hcw, by simp⟩
      obtain ⟨x, hx⟩ : ∃ x, x = w2.heap.size := ⟨_, rfl⟩
      rw [← hx] at P0
      have HX := Lib.hid hx
      clear hn b2 hxblk
      go_wp2_with fail
      rw [← HX.out]
      clear HX hx
      go_loopw [5, 8] (fun bv i wr => ∃ (j b ch : Nat) (l : List Int) (v : Value), j ≤ len ∧ i = .int .i64 j ∧ bv = .pointer (some ⟨b, 0, none⟩) ∧ Play w n b ch x v wr l) (fun _ i _ => len - (intOf i).toNat)
      case atStart => exact ⟨0, b, ch, [], _, Nat.zero_le _, rfl, rfl, P0⟩
      case round =>
        clear P0 hcw
        obtain ⟨j, b, ch, l, v, hj, rfl, rfl, P⟩ := hrel
        by_cases hlt : j < len
        · obtain ⟨ad, rfl, hadB, hcells⟩ := (ha.below P.bel) (by omega)
          obtain ⟨hc0, hc1⟩ := hcells j hlt
          clear hcells
          have keepS : ∀ w', Below w.heap.size w w' → w'.cell? ⟨(ad.add (j * 2)).block, (ad.add (j * 2)).off + 1, none⟩ = some (.int .i64 (m j)) := by
            intro w' hb
            obtain ⟨ad', e, _, h⟩ := (ha.below hb) (by omega)
            injection e with e
            subst e
            exact (h j hlt).2
          have KS := Lib.hid keepS
          clear keepS
          have P1 := P.quiet (drew_one wr)
          have parts : ((k j == 0) = true ∧ l.length < n) ∨ ((k j == 0) = true ∧ n ≤ l.length) ∨ (((k j == 0) = false ∧ (k j == 1) = true) ∧ Hid (l = [])) ∨ (((k j == 0) = false ∧ (k j == 1) = true) ∧ ∃ y t, Hid (l = y :: t)) ∨ ((k j == 0) = false ∧ (k j == 1) = false) := by
            by_cases h0 : k j = 0
            · rcases Nat.lt_or_ge l.length n with h | h
              · exact .inl ⟨by simpa using h0, h⟩
              · exact .inr (.inl ⟨by simpa using h0, h⟩)
            · by_cases h1 : k j = 1
              · refine .inr (.inr ?_)
                cases l with
                | nil => exact .inl ⟨⟨by simpa using h0, by simpa using h1⟩, rfl⟩
                | cons y t => exact .inr (.inl ⟨⟨by simpa using h0, by simpa using h1⟩, y, t, rfl⟩)
              · exact .inr (.inr (.inr (.inr ⟨by simpa using h0, by simpa using h1⟩)))
          have hl1 := P.len
          rcases parts with ⟨e0, hroom⟩ | ⟨e0, hfull⟩ | ⟨⟨e0, e1⟩, hnil⟩ | ⟨⟨e0, e1⟩, y, t, hcons⟩ | ⟨e0, e1⟩
          case' inl =>
            go_wp2_with fail
            go_region_held3 (fun w' => w'.cell? ⟨(ad.add (j * 2)).block, (ad.add (j * 2)).off + 1, none⟩ = some (.int .i64 (m j))) (first | go_keep | exact KS.out _ (by assumption))
              (first | (go_at_call 11; refine (put_yes P1.box hroom (m j)).mono ?_; rintro e w3 ⟨rfl, hb3, t3⟩; obtain ⟨hb4, hr4, hbel4⟩ := P1.boxed t3.1 hb3) | (go_at_call 15; refine (ref_put hr4 hroom (by omega) (m j)).mono ?_; rintro e w5 ⟨rfl, v5, hr5, ap5⟩; have hbel5 := hbel4.trans (ap5.2.mono (Nat.le_refl _))))
            have P2 : Play w n b ch x v5 w5 (l ++ [m j]) := ⟨hb4.keeps ap5.1, hr5, hbel5, P.ltc, by simp; omega⟩
            clear hb4 hr4 hbel4 hr5 hbel5 ap5 hb3 t3
          case' inr.inl =>
            go_wp2_with fail
            go_region_held3 (fun w' => w'.cell? ⟨(ad.add (j * 2)).block, (ad.add (j * 2)).off + 1, none⟩ = some (.int .i64 (m j))) (first | go_keep | exact KS.out _ (by assumption))
              (first | (go_at_call 11; refine (put_no P1.box hfull (m j)).mono ?_; rintro e w3 ⟨rfl, rfl⟩) | (go_at_call 15; refine (ref_full P1.ref hfull (m j)).mono ?_; rintro e w5 ⟨rfl, g5⟩; have hbel5 := (P1.quiet g5).bel))
            have P2 := P1.quiet g5
            clear g5 hbel5
          case' inr.inr.inl =>
            have Q0 : Play w n b ch x v wr [] := hnil.out ▸ P
            clear hnil
            go_wp2_with fail
            refine (take_no Q0.box).mono ?_
            rintro e w3 ⟨rfl, rfl⟩
            go_wp2_with fail
            refine (ref_none Q0.ref).mono ?_
            rintro e w5 ⟨rfl, g5⟩
            have P2 := Q0.quiet g5
            clear g5 Q0
          case' inr.inr.inr.inl =>
            have Q0 : Play w n b ch x v wr (y :: t) := hcons.out ▸ P
            clear hcons
            have hl2 := Q0.len
            go_wp2_with fail
            refine (take_yes Q0.box).mono ?_
            rintro e w3 ⟨rfl, hb3, t3⟩
            obtain ⟨hb4, hr4, hbel4⟩ := Q0.boxed t3.1 hb3
            have ht : t.length ≤ n := by simp only [List.length_cons] at hl2; omega
            go_wp2_with fail
            refine (ref_take hr4 (by omega)).mono ?_
            rintro e w5 ⟨rfl, v5, hr5, ap5⟩
            have P2 : Play w n b ch x v5 w5 t := ⟨hb4.keeps ap5.1, hr5, hbel4.trans (ap5.2.mono (Nat.le_refl _)), P.ltc, ht⟩
            clear hb4 hr4 hbel4 hr5 ap5 hb3 t3 ht hl2 Q0
          case' inr.inr.inr.inr =>
            go_wp2_with fail
            refine (copy_box P.box P.len hn2).mono ?_
            rintro e w3 ⟨bn, cn, rfl, hc3, hb3, g3, f1, f2⟩
            obtain ⟨x1, x2⟩ := chan_ne P.box P.ref
            have x3 := P.box.ltc
            have x4 := P.ltc
            have x5 := P.size
            have off : ch ≠ bn ∧ ch ≠ cn ∧ ch ≠ x ∧ v.ownBlock ≠ some ch ∧ w.heap.size ≤ ch := ⟨by omega, by omega, x1, x2, x4⟩
            have N3 : Play w n bn cn x v w3 l := ⟨hc3, P.ref.grown g3 (by simpa using x1) (.inr x2), P.bel.grown g3 x5 (by intro k e; injection e with e; omega), by omega, P.len⟩
            clear x1 x2 x3 x4 x5 hc3 g3 f1 f2
            go_wp2_with fail
            refine (put_some hb3 99).mono ?_
            rintro e w4 ⟨r4, l4, rfl, hb4, g4⟩
            have N4 := N3.aside g4 off
            clear hb3 g4 N3
            go_wp2_with fail
            refine (take_some_ hb4).mono ?_
            rintro e w5 ⟨r5, t5, l5, rfl, hb5, g5⟩
            have N5 := N4.aside g5 off
            clear hb4 g5 N4
            go_wp2_with fail
            refine (take_some_ hb5).mono ?_
            rintro e w6 ⟨r6, t6, l6, rfl, hb6, g6⟩
            have P2 := N5.aside g6 off
            clear hb5 hb6 g6 N5 off
          all_goals
            obtain ⟨L, A6, c6, P4⟩ := P2.named
            clear P2 P P1 KS hc0 hc1 hl1
            have P3 := P4.quiet (drew_one _)
            have hl3 := P4.len
            clear P4
            have hc1 := P3.ref.cell1
            go_wp2_with fail
            go_region_held3 (fun w' => w'.cell? ⟨x, 1, none⟩ = some (.slice A6 L.length c6)) (first | go_keep | exact RefAt.cell1 (by assumption))
              (first | (go_at_call 19; refine (list_slice P3.box hl3 hn2).mono ?_; rintro e w7 ⟨A7, c7, rfl, o7, hb7, g7⟩; obtain ⟨hb8, hr8, hbel8⟩ := P3.boxed g7 hb7) | (go_at_call 18; refine (ints_alike _ _ _ _ _ _ _ _ (own_ints o7) (own_ints hr8.own) (by omega)).mono ?_; rintro e w9 ⟨rfl, g9⟩; have hr9 := hr8.quiet g9; have hb9 := hb8.grown g9 (by simp) (by simp); have hbel9 := hbel8.grown g9 hbel8.size (by simp)) | (go_at_call 12; refine (len_any hb9).mono ?_; rintro e w10 ⟨rfl, rfl⟩))
            have P5 := Play.mk hb9 hr9 hbel9 P3.ltc hl3
            clear hb9 hr9 hbel9 P3 g9 hb8 hr8 hbel8 o7 g7 hb7 hc1
            go_wp2_with fail
            go_roundw
            case rel => exact ⟨j + 1, _, _, L, _, by omega, by go_num, rfl, P5⟩
            case measure => simp [intOf]; omega
        · go_wp2_with fail
          refine (first_any _).mono ?_
          rintro e w3 ⟨rfl, b3⟩
          go_wp2_with fail
          go_ret
          exact ⟨rfl, P.bel.trans (b3.mono P.size)⟩
    · have hd : decide ((300 : Int) < (len : Int)) = true := by simp; omega
      have hd1 : decide ((1000 : Int) < (n : Int)) = false := by simp; omega
      go_enter Try.func7, Try.ntmps7
      go_wp2_with fail
      refine (first_any _).mono ?_
      rintro e w1 ⟨rfl, b1⟩
      have hw1 := b1.size
      go_wp2_with fail
      refine (new_yes n (by omega) (by omega) _).mono ?_
      rintro e w2 ⟨rfl, rfl⟩
      have b2 : Below w.heap.size w (newBox w1 n) := b1.trans ((newBox_below w1 n).mono hw1)
      have hns := newBox_size w1 n
      generalize newBox w1 n = w2 at b2 hns ⊢
      have HS := Lib.hid hns
      clear hns
      go_wp2_with fail
      refine (first_any _).mono ?_
      rintro e w3 ⟨rfl, b3⟩
      go_wp2_with fail
      go_ret
      exact ⟨rfl, b2.trans (b3.mono (by have := HS.out; omega))⟩
  · rcases (show sz < 1 ∨ (¬ sz < 1 ∧ 1000 < sz) by omega) with hneg | ⟨hneg, hbig⟩
    all_goals
      go_enter Try.func7, Try.ntmps7
      go_wp2_with fail
      refine (first_any _).mono ?_
      rintro e w1 ⟨rfl, b1⟩
      have hw1 := b1.size
      go_wp2_with fail
      refine (new_no sz (by omega) _).mono ?_
      rintro e w2 ⟨rfl, rfl⟩
      go_wp2_with fail
      refine (first_any _).mono ?_
      rintro e w3 ⟨rfl, b3⟩
      go_wp2_with fail
      go_ret
      exact ⟨rfl, b1.trans (b3.mono hw1)⟩
end Go.Proofs.Ytegjpfdbfjfolaa
