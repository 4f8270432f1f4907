/- zone.near. -/
import Derived.Test.YtbnchbcdgffkaaaYly
namespace Go.Proofs.Ytbnchbcdgffkaaa
open Go.RowKit
set_option linter.unusedVariables false
/-- The shifts, and the yearly ones of j years from y on. -/
def acc (L : List Sh) (Y : List Yr) (fr y : Int) : Nat → List Sh
  | 0 => L
  | j + 1 => acc L Y fr y j ++ yearL Y fr (y + j)
/-- The shifts that may be next. -/
def nearL (L : List Sh) (Y : List Yr) (fr y : Int) : List Sh := if y < fr then L ++ yearL Y fr fr else acc L Y fr (y - 1) 3
theorem yearL_len {Y : List Yr} {fr y : Int} (h : MayYs Y fr) : (yearL Y fr y).length ≤ 2 := by
  unfold yearL
  split
  · simp
  · rcases h with rfl | ⟨a, b, rfl, -⟩ <;> simp
theorem acc_len {L : List Sh} {Y : List Yr} {fr y : Int} (h : MayYs Y fr) (j : Nat) : (acc L Y fr y j).length ≤ L.length + 2 * j := by
  induction j with
  | zero => simp [acc]
  | succ j ih =>
    have := yearL_len (y := y + j) h
    simp only [acc, List.length_append]
    omega
set_option maxRecDepth 100000 in
set_option maxHeartbeats 4000000 in
theorem near_any (bs : Int) (A : Option Addr) (c : Nat) (A' : Option Addr) (c' : Nat) (fr u : Int) (L : List Sh) (Y : List Yr) (B : Nat) (w : World) (hM : MayYs Y fr) (hs : ShAt w B A L) (hy : YrAt w B A' Y) (hB : B ≤ w.heap.size) (hl : L.length ≤ 400) (hu : MayT u) :
    Calls Try.prog 32 #[zv bs A L.length c A' Y.length c' fr, .int .i64 u] w fun e w' => ∃ A1 c1 y, e = .returned (.slice A1 (nearL L Y fr y).length c1) ∧ OwnS w' w.heap.size (.slice A1 (nearL L Y fr y).length c1) (nearL L Y fr y) ∧ Below w.heap.size w w' ∧ 1 ≤ y ∧ y ≤ 9999 ∧ Civ.fst y ≤ u / 86400 ∧ u / 86400 < Civ.fst (y + 1) := by
  obtain ⟨i0, hi, hz0, hz1, hz2⟩ := info_parts sh_row
  go_enter Try.func32, Try.ntmps32
  go_wp2_with fail
  have bx := (Below.refl w.heap.size w).alloc (Nat.le_refl _) (zo bs A L.length c A' Y.length c' fr)
  have HB := Lib.hid (Boxed.new_ (bs := bs) (A := A) (n := L.length) (c := c) (A' := A') (n' := Y.length) (c' := c') (fr := fr) w)
  generalize w.alloc (zo bs A L.length c A' Y.length c' fr) = w1 at bx HB ⊢
  refine (tday_any u hu w1).mono ?_
  rintro e w2 ⟨rfl, rfl⟩
  obtain ⟨hu1, hu2⟩ := hu
  have d1 : -719162 ≤ u / 86400 := by omega
  have d2 : u / 86400 ≤ 2932896 := by omega
  have hDt := date_any (u / 86400) d1 d2
  generalize hD : u / 86400 = D at hDt d1 d2 ⊢
  have hDe := Lib.hid hD
  clear hD
  generalize u % 86400 = R
  go_wp2_with fail
  refine (hDt w1).mono ?_
  clear hDt
  rintro e w2 ⟨y, m, d, hv, hn, rfl, rfl⟩
  have hin := Lib.hid (hn ▸ Civ.num_in hv)
  obtain ⟨y1, y2, -, -⟩ := hv
  clear hn d1 d2 hu1 hu2
  obtain ⟨lt, c0, c1, c2, c3⟩ := HB.out
  have hs1 := hs.below (bx.mono hB)
  go_wp2_with fail
  refine (clone_any A c B L w1 hs1 (by omega)).mono ?_
  rintro e w2 ⟨A2, k2, rfl, O, b2⟩
  clear c0 c1 c2 c3 hs1
  have hw := bx.size
  obtain ⟨lt, c0, c1, c2, c3⟩ := (HB.out.below b2 HB.out.lt)
  have b2a := bx.trans (b2.mono hw)
  have hy2 := hy.below (b2a.mono hB)
  by_cases q : y < fr
  · have qt := decide_eq_true q
    go_wp2_with fail
    refine (yearly_any bs A L.length c A' c' fr fr Y B w2 hM hy2 (Nat.le_trans hB b2a.size)).mono ?_
    rintro e w3 ⟨A3, k3, rfl, O3, b3⟩
    have hw2 := b2a.size
    have b3a := b2a.trans (b3.mono hw2)
    have O2 := O.below b3 (Nat.le_refl _)
    have l3 := yearL_len (y := fr) hM
    have hE := Lib.hid (show nearL L Y fr y = L ++ yearL Y fr fr by unfold nearL; rw [if_pos q])
    have hx := Nat.le_trans b2.size b3.size
    clear c0 c1 c2 c3 O b2 b3 HB
    generalize yearL Y fr fr = N at *
    go_wp2_with (at_builtin; refine wpList_append_any _ rfl (.tmp 32) (.tmp 36) _ rfl w1.heap.size 29 i0 _ 2 16 Try.underlying22 hi hz0 hz1 hz2 rfl (by omega) _ L.length _ rfl O2 _ A3 N.length k3 (flat N) rfl (Reads.of_own O3) (flat_one _) (by simp only [maxLen]; omega) (by omega) hx ?_; intro v5 w5 o5 g5 at5)
    have ho := ownS_more o5
    have b5 := b3a.grown g5 b3a.size (fun k hk => by have := (World.ownsRow.lt O2 k hk).1; omega)
    obtain ⟨A5, c5, rfl⟩ := ho.form
    go_wp2_with fail
    go_ret
    refine ⟨A5, c5, y, ?_, ?_, b5, y1, y2, by rw [hDe.out]; exact hin.out.1, by rw [hDe.out]; exact hin.out.2⟩
    · rw [hE.out]; rfl
    · rw [hE.out]; exact ho.mono hw
  · have qt := decide_eq_false q
    have hE := Lib.hid (show nearL L Y fr y = acc L Y fr (y - 1) 3 by unfold nearL; rw [if_neg q])
    go_wp2_with fail
    clear c0 c1 c2 c3
    have OB := HB.out.below b2 HB.out.lt
    have w2s := b2a.size
    go_loopw [11, 12] (fun sv kv wr => ∃ (j : Nat) (A1 : Option Addr) (k1 : Nat), j ≤ 3 ∧ sv = .slice A1 (acc L Y fr (y - 1) j).length k1 ∧ kv = .int .i64 (y - 1 + (j : Int)) ∧ OwnS wr w1.heap.size (.slice A1 (acc L Y fr (y - 1) j).length k1) (acc L Y fr (y - 1) j) ∧ Below w1.heap.size w1 wr) (fun sv kv _ => (y + 2 - intOf kv).toNat)
    case atStart => exact ⟨0, A2, k2, Nat.zero_le _, rfl, by simp, O, b2⟩
    case round =>
      obtain ⟨j, A1, k1, hj, rfl, rfl, O, b1⟩ := hrel
      have hw1 := b1.size
      have b1a := bx.trans (b1.mono hw)
      obtain ⟨-, c0, c1, c2, c3⟩ := (HB.out.below b1 HB.out.lt)
      have hy3 := hy.below (b1a.mono hB)
      have la := acc_len (L := L) (y := y - 1) hM j
      by_cases hlt : j < 3
      · have t1 : y - 1 + (j : Int) ≤ y + 1 := by omega
        go_wp2_with fail
        refine (yearly_any bs A L.length c A' c' fr (y - 1 + (j : Int)) Y B wr hM hy3 (Nat.le_trans hB b1a.size)).mono ?_
        rintro e w3 ⟨A3, k3, rfl, O3, b3⟩
        have b3a := b1.trans (b3.mono hw1)
        have O2 := O.below b3 (Nat.le_refl _)
        have l3 := yearL_len (y := y - 1 + (j : Int)) hM
        have hA := Lib.hid (show acc L Y fr (y - 1) (j + 1) = acc L Y fr (y - 1) j ++ yearL Y fr (y - 1 + (j : Int)) from rfl)
        clear c0 c1 c2 c3 O b3 hy3 b1a b1
        generalize yearL Y fr (y - 1 + (j : Int)) = N at *
        generalize acc L Y fr (y - 1) j = M at *
        go_wp2_with (at_builtin; refine wpList_append_any _ rfl (.tmp 46) (.tmp 49) _ rfl w1.heap.size 29 i0 _ 2 16 Try.underlying22 hi hz0 hz1 hz2 rfl (by omega) _ M.length _ rfl O2 _ A3 N.length k3 (flat N) rfl (Reads.of_own O3) (flat_one _) (by simp only [maxLen]; omega) (by omega) (by have := b3a.size; omega) ?_; intro v5 w5 o5 g5 at5)
        have ho := ownS_more o5
        have b5 := b3a.grown g5 b3a.size (fun k hk => by have := (World.ownsRow.lt O2 k hk).1; omega)
        obtain ⟨A5, c5, rfl⟩ := ho.form
        rw [← hA.out] at ho ⊢
        go_wp2_with fail
        go_roundw
        case rel => exact ⟨j + 1, A5, c5, by omega, rfl, by simp; omega, ho, b5⟩
        case measure => simp [intOf]; omega
      · obtain rfl : j = 3 := by omega
        have t1 : ¬ y - 1 + ((3 : Nat) : Int) ≤ y + 1 := by omega
        go_wp2_with fail
        go_ret
        refine ⟨A1, k1, y, ?_, ?_, b1a, y1, y2, by rw [hDe.out]; exact hin.out.1, by rw [hDe.out]; exact hin.out.2⟩
        · rw [hE.out]; rfl
        · rw [hE.out]; exact O.mono hw
end Go.Proofs.Ytbnchbcdgffkaaa
