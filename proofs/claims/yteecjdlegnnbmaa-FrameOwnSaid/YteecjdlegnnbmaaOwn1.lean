/- FrameOwn: the rows that are spoilt, on memory; voklaw13.front. -/
import Derived.Test.YteecjdlegnnbmaaScan2
import Derived.Test.YteecjdlegnnbmaaBack1
import Derived.Test.YteecjdlegnnbmaaSums
namespace Go.Proofs.Yteecjdlegnnbmaa
open Go.RowKit
set_option linter.unusedVariables false
theorem kept_head {L : List (List Nat)} {j : Nat} (h : j < L.length) (hl : L[j].length ≤ 8192) (h0 : kept (L.take j) = []) : (kept L).headD [] = L[j] := by
  have e : kept L = kept (L.take (j + 1)) ++ kept (L.drop (j + 1)) := by
    unfold kept
    rw [← List.filter_append, List.take_append_drop]
  rw [e, kept_yes h hl, h0]
  rfl
set_option maxRecDepth 100000 in
set_option maxHeartbeats 1000000 in
theorem front_any (A : Option Addr) (c B : Nat) (L : List (List Nat)) (w : World) (ha : RowsAt w B A L) (hl : L.length ≤ maxLen) :
    Calls Try.prog 23 #[.slice A L.length c] w fun e w' => ∃ A' c', e = .returned (.slice A' ((kept L).headD []).length c') ∧ w = w' ∧ BytesAt w B A' ((kept L).headD []) := by
  unfold maxLen at hl
  go_enter Try.func23, Try.ntmps23
  go_wp2_with fail
  go_loopw [3] (fun i wr => ∃ j : Nat, j ≤ L.length ∧ i = .int .i64 j ∧ wr = w ∧ kept (L.take j) = []) (fun i _ => L.length - (intOf i).toNat)
  case atStart => exact ⟨0, Nat.zero_le _, rfl, rfl, by simp [kept]⟩
  case round =>
    obtain ⟨j, hj, rfl, rfl, hk⟩ := hrel
    by_cases hlt : j < L.length
    · obtain ⟨ad, a, c', rfl, hc0, R, rm, _⟩ := ha.get hlt
      by_cases hle : L[j].length ≤ 8192
      · have E1 := Lib.hid (kept_head hlt hle hk)
        clear hk
        go_wp2_with fail
        go_ret
        exact ⟨a, c', by rw [E1.out]; rfl, rfl, by rw [E1.out]; exact R⟩
      · have hk2 := Lib.hid ((kept_no hlt (by omega)).trans hk)
        clear hk
        go_wp2_with fail
        go_roundw
        case rel => exact ⟨j + 1, by omega, by go_num, trivial, hk2.out⟩
        case measure => simp [intOf]; omega
    · obtain rfl : j = L.length := by omega
      rw [List.take_length] at hk
      have HK := Lib.hid hk
      clear hk
      go_wp2_with fail
      go_ret
      exact ⟨none, 0, by rw [HK.out]; rfl, rfl, by rw [HK.out]; exact Reads.none_⟩
theorem apart_sym {a b : Option Nat} (h : a = none ∨ a ≠ b) : b = none ∨ b ≠ a := by
  cases b with
  | none => exact .inl rfl
  | some g =>
    refine .inr fun e => ?_
    rcases h with h | h
    · rw [h] at e; cases e
    · exact h e.symm
theorem grown_set (w : World) (a : Addr) (u : Value) : w.grownBy (w.setCell a u) (some a.block) := ⟨rfl, rfl, rfl, by simp, fun k hk hne => heap_setCell_other w a k u (fun e => hne (by rw [e]))⟩
/-- The list that is spoilt: rows from the i-th on are whole and lie apart. -/
structure Spoil (w : World) (M i : Nat) (A : Option Addr) (c : Nat) (P : List (List Nat)) (xs : List Value) : Prop where
  m : w.ownsRow M 22 1 (.slice A P.length c) P.length xs
  rows : ∀ k, i ≤ k → (hk : k < P.length) → ∃ A' c' l, xs[k]? = some (.slice A' P[k].length c') ∧ l.length = P[k].length ∧ Small l ∧ Own w M (.slice A' P[k].length c') l
  apart : ∀ (a b : Nat) (x y : Value), i ≤ a → a < b → xs[a]? = some x → xs[b]? = some y → x.ownBlock = none ∨ x.ownBlock ≠ y.ownBlock
section
variable {w w' : World} {M i c : Nat} {A : Option Addr} {P : List (List Nat)} {xs : List Value}
theorem Spoil.start (h : w.ownsRow M 22 1 (.slice A P.length c) P.length xs) (R : RowsIn w M xs P) (S : ∀ p ∈ P, Small p) (AP : ApartRows xs) : Spoil w M 0 A c P xs :=
  ⟨h, fun k _ hk => by obtain ⟨A', c', e, O⟩ := R.2 k hk; exact ⟨A', c', P[k], e, rfl, S _ (List.getElem_mem hk), O⟩, fun a b x y _ h1 h2 h3 => AP a b x y h1 h2 h3⟩
theorem Spoil.below (h : Spoil w M i A c P xs) {B : Nat} (hb : Below B w w') (hB : w.heap.size ≤ B) : Spoil w' M i A c P xs :=
  ⟨World.ownsRow.kept h.m (below_quiet hb hB) (by cases hv : (Value.slice A P.length c).ownBlock <;> simp), fun k h1 hk => by obtain ⟨A', c', l, e, h2, h3, O⟩ := h.rows k h1 hk; exact ⟨A', c', l, e, h2, h3, O.below hb hB⟩, h.apart⟩
theorem Spoil.alloc (h : Spoil w M i A c P xs) (o : Obj) : Spoil (w.alloc o) M i A c P xs :=
  ⟨World.ownsRow.alloc h.m o, fun k h1 hk => by obtain ⟨A', c', l, e, h2, h3, O⟩ := h.rows k h1 hk; exact ⟨A', c', l, e, h2, h3, O.alloc o⟩, h.apart⟩
theorem Spoil.drew (h : Spoil w M i A c P xs) : Spoil w.drew M i A c P xs := ⟨h.m, h.rows, h.apart⟩
/-- The i-th row is changed: those behind it stay. -/
theorem Spoil.keep (h : Spoil w M i A c P xs) {A' : Option Addr} {c' : Nat} {l : List Nat} (hi : i < P.length) (hx : xs[i]? = some (.slice A' P[i].length c')) (O : Own w M (.slice A' P[i].length c') l) (g : w.grownBy w' (Value.slice A' P[i].length c').ownBlock) : Spoil w' M (i + 1) A c P xs := by
  refine ⟨World.ownsRow.kept h.m g (apart_sym (own_ne_lists O h.m)), fun k h1 hk => ?_, fun a b x y h1 h2 h3 h4 => h.apart a b x y (by omega) h2 h3 h4⟩
  obtain ⟨A2, c2, l2, e, h2, h3, O2⟩ := h.rows k (by omega) hk
  exact ⟨A2, c2, l2, e, h2, h3, O2.grown g (apart_sym (h.apart i k _ _ (Nat.le_refl _) (by omega) hx e))⟩
/-- The i-th row has other bytes. -/
theorem Spoil.turn (h : Spoil w M i A c P xs) {A' : Option Addr} {c' : Nat} {l l' : List Nat} (hi : i < P.length) (hx : xs[i]? = some (.slice A' P[i].length c')) (O : Own w M (.slice A' P[i].length c') l) (g : w.grownBy w' (Value.slice A' P[i].length c').ownBlock) (hl : l'.length = P[i].length) (hs : Small l') (O' : Own w' M (.slice A' P[i].length c') l') : Spoil w' M i A c P xs := by
  have K := h.keep hi hx O g
  refine ⟨K.m, fun k h1 hk => ?_, h.apart⟩
  by_cases he : k = i
  · subst he
    exact ⟨A', c', l', hx, hl, hs, O'⟩
  · exact K.rows k (by omega) hk
/-- The i-th row is another one, behind it all stay. -/
theorem Spoil.put (h : Spoil w M (i + 1) A c P xs) (hi : i < P.length) (v : Value) : ∃ g, A = some ⟨g, 0, none⟩ ∧ M ≤ g ∧ Spoil (w.setCell ⟨g, i, none⟩ v) M (i + 1) A c P (xs.set i v) := by
  obtain ⟨g, cap, e, hg, _⟩ := h.m.form (by omega)
  injection e with e1 e2 e3
  subst e1 e3
  obtain ⟨h1, h2⟩ := World.ownsRow.stored h.m i v
  refine ⟨g, rfl, hg, ?_⟩
  refine ⟨h1, fun k h3 hk => ?_, fun a b x y h3 h4 h5 h6 => ?_⟩
  · obtain ⟨A2, c2, l2, e, h4, h5, O2⟩ := h.rows k h3 hk
    refine ⟨A2, c2, l2, ?_, h4, h5, ?_⟩
    · rw [List.getElem?_set_ne (by omega)]; exact e
    · exact O2.grown (grown_set w ⟨g, i, none⟩ v) (own_ne_lists O2 h.m)
  · rw [List.getElem?_set_ne (by omega)] at h5 h6
    exact h.apart a b x y h3 h4 h5 h6
end
end Go.Proofs.Yteecjdlegnnbmaa
