/- Rows of bytes that are read, each with its room; wal.copied. -/
import Derived.Test.YtkhbpaloicefdaaLog0
import Derived.Test.YtkhbpaloicefdaaCrash
namespace Go.Proofs.Ytkhbpaloicefdaa
open Go.RowKit Go.ChangeShapes Go.WideShapes Go.Deep
set_option linter.unusedVariables false
attribute [local go_sem ↓] Go.wp_at_zero Go.wp_at_succ
theorem Own.roomy {w : World} {base c : Nat} {A : Option Addr} {l : List Nat} (h : Own w base (.slice A l.length c) l) : Roomy A l.length c := by
  rcases h.2 with ⟨e, _⟩ | ⟨g, cp, cur, e, _, _, hn, hm, _⟩
  · injection e with e1 e2 e3
    subst e1 e3
    exact ⟨by rw [e2]; exact Nat.le_refl _, by simp, fun _ => rfl⟩
  · injection e with e1 e2 e3
    subst e1 e3
    exact ⟨hn, hm, fun e => by cases e⟩
/-- A slice of slices that reads as the rows L. -/
structure PsAt (w : World) (B : Nat) (A : Option Addr) (L : List (List Nat)) : Prop where
  rows : 0 < L.length → ∃ ad, A = some ad ∧ ad.block < B ∧ ∀ k (h : k < L.length), ∃ A' c', w.cell? (ad.add k) = some (.slice A' L[k].length c') ∧ BytesAt w B A' L[k] ∧ Roomy A' L[k].length c'
  small : ∀ l ∈ L, Small l
section
variable {w w' : World} {B c : Nat} {A : Option Addr} {L : List (List Nat)} {xs : List Value}
theorem PsAt.below (h : PsAt w B A L) (hb : Below B w w') : PsAt w' B A L := by
  refine ⟨fun hn => ?_, h.small⟩
  obtain ⟨ad, e, hB, hc⟩ := h.rows hn
  refine ⟨ad, e, hB, fun k hk => ?_⟩
  obtain ⟨A', c', h1, h2, h3⟩ := hc k hk
  have hbl : (ad.add k).block = ad.block := block_of_add _ _
  exact ⟨A', c', (hb.cell (by rw [hbl]; exact hB)).trans h1, h2.below hb, h3⟩
theorem PsAt.get (h : PsAt w B A L) {k : Nat} (hk : k < L.length) : ∃ ad A' c', A = some ad ∧ w.cell? (ad.add k) = some (.slice A' L[k].length c') ∧ BytesAt w B A' L[k] ∧ Roomy A' L[k].length c' ∧ (ad.add k).block < B := by
  obtain ⟨ad, e, hb, hc⟩ := h.rows (by omega)
  obtain ⟨A', c', e2, O, R⟩ := hc k hk
  exact ⟨ad, A', c', e, e2, O, R, by rw [block_of_add]; exact hb⟩
theorem PsAt.of_own {base base' : Nat} (h : w.ownsRow base 32 1 (.slice A L.length c) L.length xs) (R : RowsIn w base' xs L) (S : ∀ l ∈ L, Small l) : PsAt w w.heap.size A L := by
  refine ⟨fun hn => ?_, S⟩
  obtain ⟨ad, e, hb, hc⟩ := (Reads.of_own h).2 hn
  refine ⟨ad, e, hb, fun k hk => ?_⟩
  obtain ⟨A', c', e2, O⟩ := R.2 k hk
  exact ⟨A', c', hc k _ e2, O.reads, O.roomy⟩
theorem PsAt.lists (h : PsAt w B A L) : ListsAt w B A L := fun hn => by
  obtain ⟨ad, e, hb, hc⟩ := h.rows hn
  refine ⟨ad, e, hb, fun k hk => ?_⟩
  obtain ⟨A', c', e2, O, _⟩ := hc k hk
  exact ⟨A', c', e2, O⟩
end
section
variable {H : Type} {enc : TypeId × Value → H} {W : World}
theorem ps_read {fuel : Nat} {a : Option Addr} {len cap : Nat} {x : DataW H × List MemPlace} (h : DataW.trod enc Try.prog W 0 (fun _ => true) true fuel 33 [.slice a len cap] = some x) :
    ∃ L : List (List Nat), L.length = len ∧ PsAt W W.heap.size a L ∧ len ≤ maxLen := by
  rcases open_int_rows Try.underlying33 Try.underlying32 Try.underlying5 (by kernel_rfl) (by kernel_rfl) h with ⟨hcs, _⟩ | ⟨b, l, c, A, Ln, C, Z, hcs, _, hl, hm, _, hx⟩
  · injection hcs with hcs _
    injection hcs with h1 h2 h3
    subst h1 h2 h3
    exact ⟨[], rfl, ⟨fun hn => absurd hn (by simp), by simp⟩, by simp⟩
  · injection hcs with hcs _
    injection hcs with h1 h2 h3
    subst h1 h2 h3
    have hrow : ∀ r, r < len → Small (((Z r).take (Ln r)).map Int.toNat) ∧ (((Z r).take (Ln r)).map Int.toNat).length = Ln r ∧ BytesAt W W.heap.size (A r) (((Z r).take (Ln r)).map Int.toNat) ∧ Roomy (A r) (Ln r) (C r) := by
      intro r hr
      obtain ⟨e1, r1, r2, r3, r4, r5, r6⟩ := hx r (by omega)
      have hlen : (((Z r).take (Ln r)).map Int.toNat).length = Ln r := by simp; omega
      refine ⟨?_, hlen, ⟨by rw [bys_length, hlen]; omega, fun hn => ?_⟩, ⟨r1, r2, r5⟩⟩
      · intro y hy
        obtain ⟨z, hz1, rfl⟩ := List.mem_map.1 hy
        have hb := u8_bd (r4 _ (List.mem_of_mem_take hz1))
        omega
      · rw [hlen] at hn
        cases hA : A r with
        | none => have := r5 hA; omega
        | some a' =>
          obtain ⟨_, hc⟩ := r6 a' hA
          refine ⟨a', rfl, ?_, fun j u hu => ?_⟩
          · have h0 := hc 0 (by omega)
            have := World.block_lt_of_cell? W _ h0
            rwa [block_of_add] at this
          · obtain ⟨n, hn, rfl⟩ := bys_get hu
            have hj : j < Ln r := by have := (List.getElem?_eq_some_iff.1 hn).1; omega
            rw [List.getElem?_map, List.getElem?_take_of_lt hj] at hn
            have hjz : j < (Z r).length := by omega
            rw [List.getElem?_eq_getElem hjz] at hn
            simp only [Option.map_some, Option.some.injEq] at hn
            rw [hc j (by omega), List.getD_eq_getElem?_getD, List.getElem?_eq_getElem hjz]
            have hb := u8_bd (r4 _ (List.getElem_mem hjz))
            rw [← hn]
            simp only [Option.getD_some]
            rw [Int.toNat_of_nonneg hb.1]
    refine ⟨(List.range len).map fun r => ((Z r).take (Ln r)).map Int.toNat, by simp, ⟨fun hn => ⟨b, rfl, ?_, fun k hk => ?_⟩, fun l hl => ?_⟩, by omega⟩
    · have h0 := (hx 0 (by simp at hn; omega)).1
      have := World.block_lt_of_cell? W _ h0
      rwa [block_of_add] at this
    · simp at hk
      obtain ⟨_, q2, q3, q4⟩ := hrow k hk
      refine ⟨A k, C k, ?_, ?_, ?_⟩
      · simp only [List.getElem_map, List.getElem_range]
        rw [q2]; exact (hx k (by omega)).1
      · simpa only [List.getElem_map, List.getElem_range] using q3
      · simp only [List.getElem_map, List.getElem_range]
        rw [q2]; exact q4
    · obtain ⟨r, hr, rfl⟩ := List.mem_map.1 hl
      exact (hrow r (List.mem_range.1 hr)).1
end
set_option maxRecDepth 100000 in
set_option maxHeartbeats 1000000 in
theorem copied_any (A : Option Addr) (c B : Nat) (L : List (List Nat)) (w : World) (ha : PsAt w B A L) (hB : B ≤ w.heap.size) (hl : L.length ≤ 100000) (hls : ∀ l ∈ L, l.length ≤ 1000000) :
    Calls Try.prog 39 #[.slice A L.length c] w fun e w' => ∃ A' c' xs, e = .returned (.slice A' L.length c') ∧ w'.ownsRow w.heap.size 32 1 (.slice A' L.length c') L.length xs ∧ RowsIn w' w.heap.size xs L ∧ Below w.heap.size w w' := by
  obtain ⟨i0, hi, hz0, hz1, hz2⟩ := info_parts list_row
  go_enter Try.func39, Try.ntmps39
  go_wp2_with fail
  go_loopw [3, 8] (fun sv si wr => ∃ (j : Nat) (v : Value) (xs : List Value), v = sv ∧ j ≤ L.length ∧ si = .int .i64 (j : Int) ∧ wr.ownsRow w.heap.size 32 1 v j xs ∧ RowsIn wr w.heap.size xs (L.take j) ∧ Below w.heap.size w wr) (fun _ si _ => L.length - (intOf si).toNat)
  case atStart => exact ⟨0, _, [], rfl, Nat.zero_le _, rfl, World.ownsRow_nil _ _ _ _, RowsIn.nil, Below.refl _ _⟩
  case round =>
    obtain ⟨j, v, xs, rfl, hj, rfl, O, R, b⟩ := hrel
    have hw := b.size
    by_cases hlt : j < L.length
    · obtain ⟨ad, A1, c1, rfl, hc0, R1, rm1, hbl⟩ := ha.get hlt
      have hcell := ((b.mono hB).cell hbl).trans hc0
      have hK := clone_all A1 c1 B L[j] wr (R1.below (b.mono hB)) rm1 (hls _ (List.getElem_mem hlt))
      have i0' : (0 : Int) ≤ (j : Int) := by omega
      have i1' : (j : Int) < (L.length : Int) := by omega
      have hx := Lib.hid (List.take_succ_eq_append_getElem hlt)
      clear hc0
      go_wp2_with fail
      refine hK.mono ?_
      rintro e w2 ⟨A9, c9, rfl, O9, b2⟩
      replace R := R.below b2 (Nat.le_refl _)
      replace O9 := O9.mono hw
      replace O : w2.ownsRow w.heap.size 32 1 v j xs := World.ownsRow.kept O (below_quiet b2 (Nat.le_refl _)) (by cases hv : v.ownBlock <;> simp)
      replace b2 := b.trans (b2.mono hw)
      have hw2 := b2.size
      clear b hK hcell
      go_wp2_with (at_builtin; refine wpList_append_own _ rfl _ _ 33 rfl w.heap.size 32 i0 (.slice none 0 0) 1 24 Try.underlying33 hi hz0 hz1 hz2 rfl (by decide) _ _ _ rfl (World.ownsRow.alloc O _) ⟨w2.heap.size, 0, none⟩ 1 1 [.slice A9 L[j].length c9] rfl rfl (cell_of_slice _ _) ?c2 ?c3 ?c4 ?c5 ?_)
      case c2 => intro u hu; simp at hu; subst hu; rfl
      case c3 => unfold maxLen; omega
      case c4 => omega
      case c5 => simp; omega
      intro v3 w3 o3 g3 _
      have O9a := O9.alloc (.cells #[.slice A9 L[j].length c9] 32)
      have Oa := World.ownsRow.alloc O (.cells #[.slice A9 L[j].length c9] 32)
      have R3 := ((R.alloc (.cells #[.slice A9 L[j].length c9] 32)).grown Oa g3).snoc (O9a.grown g3 (own_ne_lists O9a Oa))
      have b3 := (b2.alloc hw2 (.cells #[.slice A9 L[j].length c9] 32)).grown g3 (by simp; omega) (fun k hk => (World.ownsRow.lt O k hk).1)
      clear R O O9 O9a Oa b2 g3
      go_wp2_with fail
      go_roundw
      case rel => exact ⟨j + 1, v3, _, rfl, by omega, by go_num, o3, by rw [hx.out]; exact R3, b3⟩
      case measure => simp [intOf]; omega
    · obtain rfl : j = L.length := by omega
      rw [List.take_length] at R
      obtain ⟨A', c', rfl⟩ := lists_form O
      go_wp2_with fail
      go_ret
      exact ⟨A', c', xs, rfl, O, R, b⟩
end Go.Proofs.Ytkhbpaloicefdaa
