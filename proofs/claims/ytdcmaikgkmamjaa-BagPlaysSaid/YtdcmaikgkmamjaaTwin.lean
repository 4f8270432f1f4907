/- bag.Copy. -/
import Derived.Test.YtdcmaikgkmamjaaDouble
namespace Go.Proofs.Ytdcmaikgkmamjaa
open Go.RowKit
set_option linter.unusedVariables false
attribute [local go_sem ↓] Go.wp_at_zero Go.wp_at_succ
section
variable {T T' base : Nat} {w w' : World} {b c : Nat} {r lost r' lost' : Int} {v v' : Value} {xs ys : List Value} {L K : List (List Nat)}
theorem one_one (A : Option Addr) (n c : Nat) : ∀ u ∈ [Value.slice A n c], u.oneCell' = true := fun u hu => by (obtain rfl : u = .slice A n c := by simpa using hu); rfl
/-- A copy under way. -/
structure Copying (base : Nat) (w : World) (b : Nat) (r lost : Int) (v : Value) (xs : List Value) (L : List (List Nat)) (n : Nat) (v' : Value) (xs' : List Value) (K : List (List Nat)) (w' : World) : Prop where
  old : BagAt 49 base w' b r lost v xs L
  new : BagAt 49 base w' n r lost v' xs' K
  kept : w.grownBy w' none
  far : w.heap.size ≤ n
  head : ∀ g, v'.ownBlock = some g → w.heap.size ≤ g
  rows : ∀ u ∈ xs', ∀ g, u.ownBlock = some g → w.heap.size ≤ g
theorem Copying.quiet {w0 : World} {n : Nat} {v' : Value} {xs' : List Value} (h : Copying base w0 b r lost v xs L n v' xs' K w) (g : w.grownBy w' none) : Copying base w0 b r lost v xs L n v' xs' K w' :=
  ⟨h.old.quiet g, h.new.quiet g, grown_to h.kept g, h.far, h.head, h.rows⟩
theorem Copying.next {w0 : World} {n : Nat} {v' v'' : Value} {xs' xs'' : List Value} {K' : List (List Nat)} (h : Copying base w0 b r lost v xs L n v' xs' K w) (hb : b < w0.heap.size) (hv : ∀ g, v.ownBlock = some g → g < w0.heap.size) (t : Turn 49 base w w' n v' xs' r lost v'' xs'' K') : Copying base w0 b r lost v xs L n v'' xs'' K' w' := by
  have hs := h.kept.size
  have hbn : b ≠ n := by have := h.far; omega
  have hap : Ap v v' := fun g h1 h2 => by have := hv g h1; have := h.head g h2; omega
  obtain ⟨o, _⟩ := t.other h.new h.old hbn hap
  refine ⟨o, t.bag, ?_, h.far, fun g hg => ?_, fun u hu g hg => ?_⟩
  · refine ⟨t.kept.os.trans h.kept.os, t.kept.tape.trans h.kept.tape, t.kept.output.trans h.kept.output, Nat.le_trans hs t.kept.size, fun i hi hne => ?_⟩
    refine (t.kept.block i (Nat.lt_of_lt_of_le hi hs) ⟨by have := h.far; omega, fun e => ?_⟩).trans (h.kept.block i hi hne)
    have := h.head i e.symm
    omega
  · rcases t.head with e | e
    · exact h.head g (by rw [← e]; exact hg)
    · exact Nat.le_trans hs (e g hg)
  · rcases t.rows u hu with e | e
    · exact h.rows u e g hg
    · exact Nat.le_trans hs (e g hg)
set_option maxRecDepth 100000 in
set_option maxHeartbeats 4000000 in
theorem copy_bag (h : BagAt 49 base w b r lost v xs L) (hbase : base ≤ w.heap.size) (hl : L.length ≤ 100000) (hli : ∀ l ∈ L, l.length ≤ 1000000) :
    Calls Try.prog 22 #[.pointer (some ⟨b, 0, none⟩)] w fun e w' => ∃ n v' xs', e = .returned (.pointer (some ⟨n, 0, none⟩)) ∧ Copying base w b r lost v xs L n v' xs' L w' := by
  obtain ⟨i0, hi0, hz0, hz1, hz2⟩ := info_parts list_row
  have c0 := h.cell0
  have c1 := h.cell1
  have H := h.quiet (drew_one w)
  have hbl := h.lt
  have hvl : ∀ g, v.ownBlock = some g → g < w.heap.size := fun g hg => by
    obtain ⟨_, cur, hc⟩ := header_thirty h.own hg
    exact (Array.getElem?_eq_some_iff.1 hc).1
  have HVL := Lib.hid hvl
  clear hvl
  have C0 : Copying base w b r lost v xs L w.heap.size (.slice none 0 0) [] [] (w.alloc (.cells #[.int .i64 r, .int .i64 lost, .slice none 0 0] 49)) :=
    ⟨h.quiet (alloc_grown _ _), ⟨.inl rfl, heap_alloc_new w _, World.ownsRow_nil _ _ _ _, RowsOf.nil, hbase⟩, alloc_grown _ _, Nat.le_refl _, fun g hg => (nomatch hg), fun u hu => (nomatch hu)⟩
  replace C0 := C0.quiet (drew_one _)
  obtain ⟨A', c', rfl⟩ := header_form h.own
  obtain ⟨n, hn⟩ : ∃ n, n = w.heap.size := ⟨_, rfl⟩
  have HN := Lib.hid hn
  rw [← hn] at C0
  clear hn
  go_enter Try.func22, Try.ntmps22
  go_wp2_with fail
  go_region_held3 (fun w' => w'.cell? ⟨b, 0, none⟩ = some (.int .i64 r) ∧ w'.cell? ⟨b, 1, none⟩ = some (.int .i64 lost)) (go_keep) (fail)
  rw [← HN.out]
  have hnl := C0.far
  clear c0 c1 H h
  generalize (w.alloc (.cells #[.int .i64 r, .int .i64 lost, .slice none 0 0] 49)).drew = w1 at C0 ⊢
  have c2 := C0.old.cell2
  go_wp2_with fail
  go_loopw [21] (fun iv wr => ∃ (j : Nat) (v' : Value) (xs' : List Value), j ≤ L.length ∧ iv = .int .i64 j ∧ Copying base w b r lost (.slice A' L.length c') xs L n v' xs' (L.take j) wr) (fun iv _ => L.length - (intOf iv).toNat)
  case atStart => exact ⟨0, _, _, Nat.zero_le _, rfl, C0⟩
  case round =>
    clear C0 c2
    obtain ⟨j, v', xs', hj, rfl, C⟩ := hrel
    by_cases hlt : j < L.length
    · generalize hK : L.take j = K at C
      have hlk : j = K.length := by rw [← hK, List.length_take]; omega
      subst hlk
      have hnx := List.take_succ_eq_append_getElem hlt
      rw [hK] at hnx
      have HNX := Lib.hid hnx
      clear hnx hK
      obtain ⟨g, cp, A1, c1, hv, hnc, hcm, hcell, hby, hrm, hsm⟩ := C.old.get hlt
      injection hv with hv1 _ hv3
      subst hv1 hv3
      have hli1 := hli _ (List.getElem_mem hlt)
      have HLI := Lib.hid hli
      have e2 := C.new.cell2
      have CD := C.quiet (drew_one wr)
      have hm0 : BytesAt wr.drew wr.heap.size A1 L[K.length] := hby
      obtain ⟨A3, c3, rfl⟩ := header_form C.new.own
      have hbw : base ≤ wr.heap.size := Nat.le_trans hbase C.kept.size
      have j0 : (0 : Int) ≤ (K.length : Int) := by omega
      have j1 : (K.length : Int) < (L.length : Int) := by omega
      have hbase3 : base ≤ wr.drew.heap.size := hbw
      have h63 : Hid (K.length + 1 ≤ maxLen) := Lib.hid (by simp only [maxLen]; omega)
      have h47 : Hid ((K.length + 1) * 24 ≤ 140737488355328) := Lib.hid (by omega)
      clear hby hli
      go_wp2_with fail
      go_region_law (first
        | ((refine step_append_any _ rfl (.tmp 29) (.tmp 32) 42 (by rfl) base 30 i0 _ 1 24 Try.underlying42 hi0 hz0 hz1 hz2 rfl (by decide) _ _ _ (by rfl) own2 _ _ 1 1 [.slice A2 L[K.length].length c2] (by rfl) nw2 ho1 h63.out h47.out hbase2 ?_; intro v2 w2 o2 g2 at2; have f2 := head_free CD2.new g2; obtain ⟨f2, f3, f4⟩ := f2; obtain ⟨A4, c4, rfl⟩ := header_form o2))
        | (go_simp; go_at_call 24; refine (clone_all A1 c1 _ L[K.length] _ hm0 hrm hli1).mono ?_; rintro e w1 ⟨A2, c2, rfl, O1, b1⟩; have CD1 := CD.quiet (below_quiet2 b1); have CD2 := CD1.quiet (alloc_grown w1 (.cells #[.slice A2 L[K.length].length c2] 30)); have e1 := CD1.new.cell2; have e3 := CD2.new.cell2; have own2 := CD2.new.own; have nw2 := one_reads w1 (.slice A2 L[K.length].length c2) (w1.heap.size + 1) (Nat.lt_succ_self _); have hbase2 : base ≤ (w1.alloc (.cells #[.slice A2 L[K.length].length c2] 30)).heap.size := (Nat.le_trans (Nat.le_trans hbase3 b1.size) (by simp)); have ho1 := one_one A2 L[K.length].length c2))
      all_goals
        have M := put_done (u := .slice A2 L[K.length].length c2) (m := L[K.length]) (grown_to (below_quiet2 b1) (alloc_grown w1 (.cells #[.slice A2 L[K.length].length c2] 30))) CD2.new (quiet_row (RowIs.own O1 hsm) (alloc_grown w1 _)) (fun g hg => by have := World.ownsRow.lt O1 g hg; exact this.1) o2 g2 at2
        have N := CD.next hbl HVL.out M
        rw [← HNX.out] at N
        clear M CD2 CD1 CD C o2 g2 at2 own2 nw2 O1 b1 f2 f3 f4 e1 e3
        go_wp2_with fail
        go_roundw
        case rel => exact ⟨K.length + 1, _, _, by omega, by go_num, N⟩
        case measure => simp [intOf]; omega
    · obtain rfl : j = L.length := by omega
      rw [List.take_length] at C
      go_wp2_with fail
      go_ret
      exact ⟨n, v', xs', rfl, C⟩
end
end Go.Proofs.Ytdcmaikgkmamjaa
