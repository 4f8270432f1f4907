/- The document's bag: Take. -/
import Derived.Test.YtdcmaikgkmamjaaRDouble
namespace Go.Proofs.Ytdcmaikgkmamjaa.Ref
open Go.RowKit
set_option linter.unusedVariables false
attribute [local go_sem ↓] Go.wp_at_zero Go.wp_at_succ
section
variable {T T' base : Nat} {w w' : World} {b c : Nat} {r lost r' lost' : Int} {v v' : Value} {xs ys : List Value} {L K : List (List Nat)}
/-- A header made anew, stored in its place. -/
theorem remade {w0 w3 : World} {v3 : Value} (g : w0.grownBy w3 none) (D : BagAt T base w3 b r lost v xs L) (o : w3.ownsRow base 30 1 v3 K.length ys) (rows : RowsOf w3 ys K) (hv : ∀ g, v3.ownBlock = some g → w0.heap.size ≤ g) (hys : ∀ u ∈ ys, u ∈ xs) :
    Turn T base w0 (w3.setCell ⟨b, 2, none⟩ v3) b v xs r lost v3 ys K :=
  ⟨BagAt.setHead D.ty D.blk o rows D.lo, ((Kept.quiet (P := fun k => k ≠ b ∧ some k ≠ v.ownBlock) g).trans (set_kept w3 b 2 v3)).imp fun k _ h => ⟨h, h.1⟩, .inr hv, fun u hu => .inl (hys u hu)⟩
theorem header_mono {B0 B1 n : Nat} (h : w.ownsRow B1 30 1 v n xs) (hb : B0 ≤ B1) : w.ownsRow B0 30 1 v n xs := by
  refine ⟨h.1, ?_⟩
  rcases h.2 with hn | ⟨g, cap, cur, e, hg, rest⟩
  · exact .inl hn
  · exact .inr ⟨g, cap, cur, e, Nat.le_trans hb hg, rest⟩
theorem quiet_reads {w w' : World} {A : Option Addr} {n : Nat} {zs : List Value} {B : Nat} (h : Reads w B 1 A n zs) (g : w.grownBy w' none) (hB : B ≤ w.heap.size) : Reads w' B 1 A n zs := Reads.grown h g hB (by simp)
/-- The document's Take: what its appends make. -/
theorem made_quiet {w w2 : World} {o : Obj} {A : Nat} (hg : (w.alloc o).grownBy w2 (Value.slice (some ⟨w.heap.size, 0, none⟩) 0 A).ownBlock) : w.grownBy w2 none :=
  grown_new (grown_to (World.grownBy.refl w none) (alloc_grown w o)) hg (by intro g e; simp [Value.ownBlock] at e; omega)
set_option maxRecDepth 100000 in
set_option maxHeartbeats 8000000 in
theorem take_yes (h : BagAt 44 base w b r lost v xs L) (hbase : base ≤ w.heap.size) {i : Nat} (hi : i < L.length) (hl : L.length ≤ 100000) (hli : L[i].length ≤ 1000000) :
    Calls Try.prog 20 #[.pointer (some ⟨b, 0, none⟩), .int .i64 i] w fun e w' => ∃ A' c' v', e = .returned (.tuple #[.slice A' L[i].length c', .bool true]) ∧ RowIs w' (.slice A' L[i].length c') L[i] ∧ Turn 44 base w w' b v xs r lost v' (xs.take i ++ xs.drop (i + 1)) (L.take i ++ L.drop (i + 1)) := by
  obtain ⟨i0, hi0, hz0, hz1, hz2⟩ := info_parts list_row
  have G := get_yes h hi (by omega) hli
  obtain ⟨N, hN⟩ : ∃ N, L.length = N + 1 := ⟨L.length - 1, by omega⟩
  obtain ⟨g, cp, A9, c9, hv, hnc, hcm, _, _, _, hsm⟩ := h.get hi
  subst hv
  rw [hN] at h hnc ⊢
  have hxl : xs.length = N + 1 := by rw [h.rows.len, hN]
  have HX := Lib.hid hxl
  have HN := Lib.hid hN
  have iN : i ≤ N := by omega
  have NN : N ≤ 100000 := by omega
  have hgw : g < w.heap.size := by
    obtain ⟨_, cur, hc⟩ := header_thirty h.own rfl
    exact (Array.getElem?_eq_some_iff.1 hc).1
  unfold maxLen at hcm
  clear hN hl hxl
  have hw0 : IntKind.i64.wrap ((i : Int) + 1) = (i : Int) + 1 := by simp [IntKind.wrap, IntKind.bits, IntKind.signed]; omega
  go_enter Try.func20, Try.ntmps20
  go_wp2_with fail
  refine G.mono ?_
  clear G
  rintro e w1 ⟨A1, c1, rfl, O1, b1⟩
  have D1 := h.quiet (below_quiet2 b1)
  have g1 := below_quiet2 b1
  have R1 := RowIs.own O1 hsm
  have hw1 : w.heap.size ≤ w1.heap.size := b1.size
  clear b1 O1
  have ho := D1.own
  rw [HN.out] at ho
  have e1 := D1.cell2
  have DA := D1.quiet (alloc_grown w1 (.cells #[] 30))
  have eA := DA.cell2
  have hown0 : Hid ((w1.alloc (.cells #[] 30)).ownsRow w1.heap.size 30 1 (.slice (some ⟨w1.heap.size, 0, none⟩) 0 0) 0 []) := Lib.hid (World.ownsRow_made w1 (base := w1.heap.size) (e := 30) (size := 1) #[] 0 (Nat.le_refl _) (by simp [maxLen]) rfl)
  have rd : Reads w1 w1.heap.size 1 (some ⟨g, 0, none⟩) (N + 1) xs := Reads.of_own ho
  have r1 : Reads w1 w1.heap.size 1 (some ⟨g, 0, none⟩) i (xs.take i) := ⟨by rw [List.length_take]; have := HX.out; omega, fun _ => by
    obtain ⟨ad, e, hb, hc⟩ := rd.2 (by omega)
    refine ⟨ad, e, hb, fun j u hu => hc j u ?_⟩
    rw [List.getElem?_take] at hu
    split at hu
    · exact hu
    · cases hu⟩
  have r2 := rd.cut (k := i + 1) (cap := cp) (by omega) hnc
  rw [Nat.mul_one] at r2
  have HR1 := Lib.hid (r1.alloc (Nat.le_refl _) (.cells #[] 30))
  have HO1 := Lib.hid (fun u hu => D1.rows.one_cell u (List.mem_of_mem_take hu) : ∀ u ∈ xs.take i, u.oneCell' = true)
  have HO2 := Lib.hid (fun u hu => D1.rows.one_cell u (List.mem_of_mem_drop hu) : ∀ u ∈ xs.drop (i + 1), u.oneCell' = true)
  have h63a : Hid (0 + i ≤ maxLen) := Lib.hid (by simp only [maxLen]; omega)
  have h47a : Hid ((0 + i) * 24 ≤ 140737488355328) := Lib.hid (by omega)
  have h63b : Hid (0 + i + (N + 1 - (i + 1)) ≤ maxLen) := Lib.hid (by simp only [maxLen]; omega)
  have h47b : Hid ((0 + i + (N + 1 - (i + 1))) * 24 ≤ 140737488355328) := Lib.hid (by omega)
  have hbA : Hid (w1.heap.size ≤ (w1.alloc (.cells #[] 30)).heap.size) := Lib.hid (by simp)
  have b0 : (0 : Int) ≤ (i : Int) := by omega
  have b1 : (i : Int) ≤ (cp : Int) := by omega
  have b2 : (0 : Int) ≤ (i : Int) + 1 := by omega
  have b3 : (i : Int) + 1 ≤ (N : Int) + 1 := by omega
  have b4 : ((i : Int) + 1).toNat = i + 1 := by omega
  have n0 : i ≤ cp := by omega
  have n1 : i + 1 ≤ N + 1 := by omega
  have n2 : i + 1 ≤ cp := by omega
  clear r1 rd ho
  rcases (show cp = i + 1 ∨ i + 1 < cp by omega) with q | q
  · obtain rfl : N = i := by omega
    have hz : xs.drop (N + 1) = [] := List.drop_eq_nil_of_le (by rw [HX.out]; exact Nat.le_refl _)
    have R2A : Hid (Reads w1 w1.heap.size 1 (some ⟨g, 0, none⟩) 0 (xs.drop (N + 1))) := Lib.hid (by rw [if_pos q] at r2; simpa using r2)
    subst q
    rw [show N + 1 - (N + 1) = 0 by omega] at h63b h47b
    have c1' : (N : Int) ≤ (N : Int) + 1 := by omega
    clear r2 hz
    go_wp2_with fail
    go_region_law (first
      | ((refine step_append_any _ rfl (.tmp 16) (.tmp 22) 42 (by rfl) w1.heap.size 30 i0 _ 1 24 Try.underlying42 hi0 hz0 hz1 hz2 rfl (by decide) _ 0 [] (by rfl) hown0.out w1.heap.size (some ⟨g, 0, none⟩) N (N + 1) (xs.take N) (by rfl) HR1.out HO1.out h63a.out h47a.out hbA.out ?_; intro v2 w2 o2 g2 at2; have G2 := made_quiet (grown_to (drew_one _) g2); have D2 := D1.quiet G2; have e2 := D2.cell2; have RR := Lib.hid (quiet_reads R2A.out G2 (Nat.le_refl _)); have hb2 := G2.size))
      | ((refine step_append_any _ rfl (.tmp 23) (.tmp 30) 42 (by rfl) w1.heap.size 30 i0 _ 1 24 Try.underlying42 hi0 hz0 hz1 hz2 rfl (by decide) v2 (0 + N) ([] ++ xs.take N) (by rfl) o2 w1.heap.size (some ⟨g, 0, none⟩) 0 0 (xs.drop (N + 1)) (by rfl) RR.out HO2.out h63b.out h47b.out hb2 ?_; intro v3 w3 o3 g3 at3; have G3 := grown_new G2 g3 (fun k hk => (World.ownsRow.lt o2 k hk).1); have D3 := D1.quiet G3; have f3 := D3.cell2; have f4 := D3.free 2; obtain ⟨A3, c3, rfl⟩ := header_form o3)))
    all_goals
      have eK : 0 + N + 0 = N := by omega
      rw [eK] at o3
      try rw [eK]
      rw [List.nil_append] at o3
      have hKl : (L.take N ++ L.drop (N + 1)).length = N := by rw [List.length_append, List.length_take, List.length_drop]; have := HN.out; omega
      have M := remade (K := L.take N ++ L.drop (N + 1)) (grown_to g1 G3) D3 (by rw [hKl]; exact header_mono o3 (Nat.le_trans hbase hw1)) ((D3.rows.take N).append (D3.rows.drop (N + 1))) (fun g' hg' => Nat.le_trans hw1 (World.ownsRow.lt o3 g' hg').1) (fun u hu => by
        rcases List.mem_append.1 hu with h | h
        · exact List.mem_of_mem_take h
        · exact List.mem_of_mem_drop h)
      have R2 := quiet_row R1 G3
      have R3 := R2.kept (set_kept w3 b 2 (.slice A3 N c3)) (fun a ha => (D3.not_five (R2.five ha)).1)
      clear R2 hKl eK o3 D3 G3 g3 at3 RR hb2 D2 G2 o2 g2 at2 HR1 HO1 HO2 R2A f3 f4 e2 eA DA e1 D1
      go_wp2_with fail
      go_ret2
      exact ⟨_, _, _, rfl, R3, M⟩
  · have qne : ¬ (cp = i + 1) := by omega
    have R2A : Hid (Reads w1 w1.heap.size 1 (some ⟨g, i + 1, none⟩) (N - i) (xs.drop (i + 1))) := Lib.hid (by rw [if_neg qne, show N + 1 - (i + 1) = N - i by omega] at r2; simpa [Addr.add] using r2)
    rw [show N + 1 - (i + 1) = N - i by omega] at h63b h47b
    clear r2
    go_wp2_with fail
    go_region_law (first
      | ((refine step_append_any _ rfl (.tmp 16) (.tmp 22) 42 (by rfl) w1.heap.size 30 i0 _ 1 24 Try.underlying42 hi0 hz0 hz1 hz2 rfl (by decide) _ 0 [] (by rfl) hown0.out w1.heap.size (some ⟨g, 0, none⟩) i cp (xs.take i) (by rfl) HR1.out HO1.out h63a.out h47a.out hbA.out ?_; intro v2 w2 o2 g2 at2; have G2 := made_quiet (grown_to (drew_one _) g2); have D2 := D1.quiet G2; have e2 := D2.cell2; have RR := Lib.hid (quiet_reads R2A.out G2 (Nat.le_refl _)); have hb2 := G2.size))
      | ((refine step_append_any _ rfl (.tmp 23) (.tmp 30) 42 (by rfl) w1.heap.size 30 i0 _ 1 24 Try.underlying42 hi0 hz0 hz1 hz2 rfl (by decide) v2 (0 + i) ([] ++ xs.take i) (by rfl) o2 w1.heap.size (some ⟨g, i + 1, none⟩) (N - i) (cp - (i + 1)) (xs.drop (i + 1)) (by rfl) RR.out HO2.out h63b.out h47b.out hb2 ?_; intro v3 w3 o3 g3 at3; have G3 := grown_new G2 g3 (fun k hk => (World.ownsRow.lt o2 k hk).1); have D3 := D1.quiet G3; have f3 := D3.cell2; have f4 := D3.free 2; obtain ⟨A3, c3, rfl⟩ := header_form o3)))
    all_goals
      have eK : 0 + i + (N - i) = N := by omega
      rw [eK] at o3
      try rw [eK]
      rw [List.nil_append] at o3
      have hKl : (L.take i ++ L.drop (i + 1)).length = N := by rw [List.length_append, List.length_take, List.length_drop]; have := HN.out; omega
      have M := remade (K := L.take i ++ L.drop (i + 1)) (grown_to g1 G3) D3 (by rw [hKl]; exact header_mono o3 (Nat.le_trans hbase hw1)) ((D3.rows.take i).append (D3.rows.drop (i + 1))) (fun g' hg' => Nat.le_trans hw1 (World.ownsRow.lt o3 g' hg').1) (fun u hu => by
        rcases List.mem_append.1 hu with h | h
        · exact List.mem_of_mem_take h
        · exact List.mem_of_mem_drop h)
      have R2 := quiet_row R1 G3
      have R3 := R2.kept (set_kept w3 b 2 (.slice A3 N c3)) (fun a ha => (D3.not_five (R2.five ha)).1)
      clear R2 hKl eK o3 D3 G3 g3 at3 RR hb2 D2 G2 o2 g2 at2 HR1 HO1 HO2 R2A f3 f4 e2 eA DA e1 D1
      go_wp2_with fail
      go_ret2
      exact ⟨_, _, _, rfl, R3, M⟩
end
end Go.Proofs.Ytdcmaikgkmamjaa.Ref
