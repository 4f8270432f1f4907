/- slices.Delete of one row; bag.Take. -/
import Derived.Test.YtdcmaikgkmamjaaGet
import Derived.Lib.SliceRun
namespace Go.Proofs.Ytdcmaikgkmamjaa
open Go.RowKit
set_option linter.unusedVariables false
attribute [local go_sem ↓] Go.wp_at_zero Go.wp_at_succ
section
variable {T T' base : Nat} {w w' : World} {b c : Nat} {r lost r' lost' : Int} {v v' : Value} {xs ys : List Value} {L K : List (List Nat)}
theorem add_at (g i j : Nat) : (⟨g, i, none⟩ : Addr).add j = ⟨g, i + j, none⟩ := by unfold Addr.add; split <;> simp_all
/-- The last cell cleared: the row ahead of it stays. -/
theorem own_cleared {g n c j : Nat} {xs : List Value} (h : w.ownsRow base 30 1 (.slice (some ⟨g, 0, none⟩) n c) n xs) (hj : n ≤ j) (u : Value) : (w.setCell ⟨g, j, none⟩ u).ownsRow base 30 1 (.slice (some ⟨g, 0, none⟩) n c) n xs ∧ w.grownBy (w.setCell ⟨g, j, none⟩ u) (some g) := by
  have := World.ownsRow.stored h j u
  rwa [List.set_eq_of_length_le (by have := h.1; omega)] at this
theorem own_spare {g n c j : Nat} {xs : List Value} (h : w.ownsRow base 30 1 (.slice (some ⟨g, 0, none⟩) n c) n xs) (hj : j < c) : (w.cell? ⟨g, j, none⟩).isSome = true := by
  rcases h.2 with ⟨e, _⟩ | ⟨g', cap, cur, e, hb, hc, h1, h2, h3, h4⟩
  · cases e
  · injection e with e1 _ e3
    injection e1 with e1
    injection e1 with e1
    subst e1 e3
    rw [cell_of_row w g j cur 30 (0, 0) hc, Array.getElem?_eq_getElem (by omega)]
    rfl
set_option maxRecDepth 100000 in
set_option maxHeartbeats 2000000 in
theorem delete_one {g N c i : Nat} (h : w.ownsRow base 30 1 (.slice (some ⟨g, 0, none⟩) (N + 1) c) (N + 1) xs) (h1 : ∀ u ∈ xs, u.oneCell' = true) (hi : i ≤ N) (hn : N ≤ 1000000) (hnc : N + 1 ≤ c) (hcm : c ≤ maxLen) :
    Calls Try.prog 25 #[.slice (some ⟨g, 0, none⟩) (N + 1) c, .int .i64 i, .int .i64 ((i : Int) + 1)] w fun e w' => e = .returned (.slice (some ⟨g, 0, none⟩) N c) ∧ w'.ownsRow base 30 1 (.slice (some ⟨g, 0, none⟩) N c) N (xs.take i ++ xs.drop (i + 1)) ∧ w.grownBy w' (some g) := by
  obtain ⟨i0, hi0, hz0, hz1, hz2⟩ := info_parts list_row
  unfold maxLen at hcm
  have hT := own_take h (show i ≤ N + 1 by omega)
  have hC := own_cells h (i + 1)
  have hxl : xs.length = N + 1 := by have := h.1; omega
  have q0 : ((i : Int) == (i : Int) + 1) = false := by simp; omega
  have b0 : (0 : Int) ≤ (i : Int) := by omega
  have b1 : (i : Int) ≤ (c : Int) := by omega
  have b2 : (0 : Int) ≤ (i : Int) + 1 := by omega
  have b3 : (i : Int) + 1 ≤ (N : Int) + 1 := by omega
  have b4 : ((i : Int) + 1).toNat = i + 1 := by omega
  have n0 : i ≤ c := by omega
  have n1 : i + 1 ≤ N + 1 := by omega
  have n2 : i + 1 ≤ c := by omega
  have hcl := fun (w1 : World) (ty : TypeId) (o k : Nat) (hc : (w1.cell? ⟨g, o, none⟩).isSome = true) (hf : w1.frozen? ⟨g, o, none⟩ = false) => Lib.run_clear_slice (P := Try.prog) w1 42 30 ty (.slice none 0 0) Try.underlying42 zero30 rfl rfl g o 1 k (by omega) (fun j hj => by (obtain rfl : j = 0 := (by omega)); exact hc) (fun j hj => by (obtain rfl : j = 0 := (by omega)); exact hf)
  have HLEN : Hid ((xs.drop (i + 1)).length = (N - i) * 1) := Lib.hid (by rw [List.length_drop, hxl]; omega)
  have HNEWS : Hid (∀ j u, (xs.drop (i + 1))[j]? = some u → w.drew.cell? ((⟨g, i + 1, none⟩ : Addr).add j) = some u) := Lib.hid (fun j u hu => by rw [add_at]; exact hC j u hu)
  have HTD : Hid (w.drew.ownsRow base 30 1 (.slice (some ⟨g, 0, none⟩) i c) i (xs.take i)) := Lib.hid hT
  have HO : Hid (w.drew.ownsRow base 30 1 (.slice (some ⟨g, 0, none⟩) (N + 1) c) (N + 1) xs) := Lib.hid h
  have HROOM : Hid (i + (N - i) ≤ c) := Lib.hid (by omega)
  have HCL := Lib.hid hcl
  have HT := Lib.hid hT
  have H1 := Lib.hid (fun u hu => h1 u (List.mem_of_mem_drop hu) : ∀ u ∈ xs.drop (i + 1), u.oneCell' = true)
  have HX := Lib.hid hxl
  clear hcl hT hC h1 hxl h
  go_enter Try.func25, Try.ntmps25
  rcases (show c ≤ i + 1 ∨ i + 1 < c by omega) with q | q
  · have q2 : N ≤ i := by omega
    go_wp2_with fail
    go_region_held3 (fun w' => True) (first | trivial | go_keep) (fail)
    obtain rfl : c = i + 1 := by omega
    obtain rfl : N = i := by omega
    have hcc := fun ty k => HCL.out w.drew ty N k (own_spare HO.out (by omega)) (World.ownsRow.frozenAt HO.out N)
    simp only [List.replicate_one, setCells_one] at hcc
    have hres := own_cleared HTD.out (Nat.le_refl N) (.slice none 0 0)
    have HG := Lib.hid (grown_to (drew_one w) hres.2)
    have HR := Lib.hid hres.1
    clear hres
    go_wp2_with fail
    go_ret
    refine ⟨rfl, ?_, HG.out⟩
    rw [List.drop_eq_nil_of_le (by rw [HX.out]; exact Nat.le_refl _), List.append_nil]
    exact HR.out
  · have qne : ¬ (c = i + 1) := by omega
    go_wp2_with fail
    go_region_held3 (fun w' => True) (first | trivial | go_keep) (first
      | (refine step_append_fits _ rfl (.tmp 22) (.tmp 25) 42 (by rfl) base 30 i0 1 Try.underlying42 hi0 hz1 g i c (xs.take i) (by rfl) HTD.out ⟨g, i + 1, none⟩ (N - i) (c - (i + 1)) (xs.drop (i + 1)) (by rfl) HLEN.out HNEWS.out H1.out HROOM.out ?_; intro w2 o2 g2))
    have eN : i + (N - i) = N := by omega
    rw [eN] at o2
    rw [eN]
    clear eN
    have hcc := fun ty k => HCL.out w2 ty N k (own_spare o2 (by omega)) (World.ownsRow.frozenAt o2 N)
    simp only [List.replicate_one, setCells_one] at hcc
    have hres := own_cleared o2 (Nat.le_refl N) (.slice none 0 0)
    have HG := Lib.hid (grown_to (drew_one w) (grown_on g2 hres.2))
    have HR := Lib.hid hres.1
    clear hres o2 g2
    go_wp2_with fail
    go_ret
    exact ⟨rfl, HR.out, HG.out⟩
/-- A row taken out of the midst. -/
theorem take_done {w0 w1 w2 : World} {g N i cp : Nat} (g1 : w0.grownBy w1 none) (D : BagAt T base w1 b r lost (.slice (some ⟨g, 0, none⟩) (N + 1) cp) xs L) (hL : L.length = N + 1) (hi : i ≤ N) (o2 : w2.ownsRow base 30 1 (.slice (some ⟨g, 0, none⟩) N cp) N (xs.take i ++ xs.drop (i + 1))) (g2 : w1.grownBy w2 (some g)) :
    Turn T base w0 (w2.setCell ⟨b, 2, none⟩ (.slice (some ⟨g, 0, none⟩) N cp)) b (.slice (some ⟨g, 0, none⟩) (N + 1) cp) xs r lost (.slice (some ⟨g, 0, none⟩) N cp) (xs.take i ++ xs.drop (i + 1)) (L.take i ++ L.drop (i + 1)) := by
  have K2 := Kept.of_grown g2
  have R2 : RowsOf w2 xs L := D.rows.kept K2 (fun x hx a ha e => by
    obtain ⟨l, hl⟩ := D.rows.mem hx
    exact (D.not_five (hl.five ha)).2 e)
  have hlen : (L.take i ++ L.drop (i + 1)).length = N := by rw [List.length_append, List.length_take, List.length_drop]; omega
  refine ⟨BagAt.setHead D.ty (head_free D g2).2.2 (by rw [hlen]; exact o2) ((R2.take i).append (R2.drop (i + 1))) D.lo, ?_, .inl rfl, ?_⟩
  · exact ((Kept.quiet (P := fun k => k ≠ b ∧ some k ≠ (Value.slice (some ⟨g, 0, none⟩) (N + 1) cp).ownBlock) g1).trans (K2.trans (set_kept w2 b 2 (.slice (some ⟨g, 0, none⟩) N cp)))).imp fun k _ h => ⟨h, h.2, h.1⟩
  · intro x hx
    rcases List.mem_append.1 hx with h | h
    · exact .inl (List.mem_of_mem_take h)
    · exact .inl (List.mem_of_mem_drop h)
set_option maxRecDepth 100000 in
set_option maxHeartbeats 2000000 in
theorem take_yes (h : BagAt 49 base w b r lost v xs L) {i : Nat} (hi : i < L.length) (hl : L.length ≤ 1000000) (hli : L[i].length ≤ 1000000) :
    Calls Try.prog 15 #[.pointer (some ⟨b, 0, none⟩), .int .i64 i] w fun e w' => ∃ A' c' v', e = .returned (.tuple #[.slice A' L[i].length c', .bool true]) ∧ RowIs w' (.slice A' L[i].length c') L[i] ∧ Turn 49 base w w' b v xs r lost v' (xs.take i ++ xs.drop (i + 1)) (L.take i ++ L.drop (i + 1)) := by
  have G := get_yes h hi hl hli
  obtain ⟨N, hN⟩ : ∃ N, L.length = N + 1 := ⟨L.length - 1, by omega⟩
  obtain ⟨g, cp, A9, c9, hv, hnc, hcm, _, _, _, hsm⟩ := h.get hi
  subst hv
  rw [hN] at h hnc ⊢
  have HN := Lib.hid hN
  have iN : i ≤ N := by omega
  have NN : N ≤ 1000000 := by omega
  clear hN hl
  have hw0 : IntKind.i64.wrap ((i : Int) + 1) = (i : Int) + 1 := by simp [IntKind.wrap, IntKind.bits, IntKind.signed]; omega
  go_enter Try.func15, Try.ntmps15
  go_wp2_with fail
  refine G.mono ?_
  clear G
  rintro e w1 ⟨A1, c1, rfl, O1, b1⟩
  have D1 := h.quiet (below_quiet2 b1)
  have e2 := D1.cell2
  have ho := D1.own
  rw [HN.out] at ho
  have Q := delete_one ho D1.rows.one_cell iN NN hnc hcm
  clear ho
  go_wp2_with fail
  refine Q.mono ?_
  clear Q
  rintro e w2 ⟨rfl, o2, g2⟩
  obtain ⟨f1, f2, f3⟩ := head_free D1 g2
  have M := take_done (below_quiet2 b1) D1 HN.out iN o2 g2
  have R1 := RowIs.own O1 hsm
  have R2 := R1.kept (Kept.of_grown g2) (fun a ha => (D1.not_five (R1.five ha)).2)
  have R3 := R2.kept (set_kept w2 b 2 (.slice (some ⟨g, 0, none⟩) N cp)) (fun a ha => (D1.not_five (R1.five ha)).1)
  clear O1 D1 e2 o2 g2 R1 R2 f3 h b1
  go_wp2_with fail
  go_ret2
  exact ⟨_, _, _, rfl, R3, M⟩
set_option maxRecDepth 100000 in
theorem take_no (h : BagAt 49 base w b r lost v xs L) {i : Int} (hi : i < 0 ∨ (L.length : Int) ≤ i) (hl : L.length ≤ 1000000) :
    Calls Try.prog 15 #[.pointer (some ⟨b, 0, none⟩), .int .i64 i] w fun e w' => e = .returned (.tuple #[.slice none 0 0, .bool false]) ∧ w = w' := by
  have G := get_no h hi hl
  go_enter Try.func15, Try.ntmps15
  go_wp2_with fail
  refine G.mono ?_
  rintro e w1 ⟨rfl, rfl⟩
  go_wp2_with fail
  go_ret2
  exact ⟨rfl, rfl⟩
end
end Go.Proofs.Ytdcmaikgkmamjaa
