/- bag.Put. -/
import Derived.Test.YtdcmaikgkmamjaaBag
import Derived.Deep.RegionLaw
namespace Go.Proofs.Ytdcmaikgkmamjaa
open Go.RowKit
set_option linter.unusedVariables false
attribute [local go_sem ↓] Go.wp_at_zero Go.wp_at_succ
theorem list_row : (Try.prog.info? 30).map (fun i => (i.zero, i.size, i.bytes)) = some (some (.slice none 0 0), 1, 24) := by kernel_rfl
theorem one_reads (w : World) (x : Value) (B : Nat) (hB : w.heap.size < B) : Reads (w.alloc (.cells #[x] 30)) B 1 (some ⟨w.heap.size, 0, none⟩) 1 [x] := by
  refine ⟨rfl, fun _ => ⟨_, rfl, hB, fun j u hu => ?_⟩⟩
  have hh := heap_alloc_new w (.cells #[x] 30)
  have hadd : (⟨w.heap.size, 0, none⟩ : Addr).add j = ⟨w.heap.size, j, none⟩ := by unfold Addr.add; split <;> simp_all
  rw [hadd, cell_of_row _ _ j _ 30 (0, 0) hh]
  simpa using hu
section
variable {T T' base : Nat} {w w' : World} {b c : Nat} {r lost r' lost' : Int} {v v' : Value} {xs ys : List Value} {L K : List (List Nat)}
theorem Turn.first {w0 : World} {xs' : List Value} {L' : List (List Nat)} {r'' lost'' : Int} {v'' : Value} (t : Turn T base w w' b v xs r'' lost'' v'' xs' L') (g : w0.grownBy w none) : Turn T base w0 w' b v xs r'' lost'' v'' xs' L' :=
  ⟨t.bag, ((Kept.quiet (P := fun k => k ≠ b ∧ some k ≠ v.ownBlock) g).trans t.kept).imp fun k _ h => ⟨h, h⟩, t.head.imp_right fun h g' e => Nat.le_trans g.size (h g' e), fun u hu => (t.rows u hu).imp_right fun h g' e => Nat.le_trans g.size (h g' e)⟩
theorem RowIs.turn {u : Value} {l : List Nat} {xs' : List Value} {L' : List (List Nat)} {r'' lost'' : Int} {v'' : Value} (h : RowIs w u l) (t : Turn T base w w' b v xs r'' lost'' v'' xs' L') (d : BagAt T base w b r lost v xs L) : RowIs w' u l := h.kept t.kept (fun a ha => d.not_five (h.five ha))
theorem RowIs.bytes {w : World} {A : Option Addr} {n c : Nat} {l : List Nat} (h : RowIs w (.slice A n c) l) : BytesAt w w.heap.size A l ∧ Room A l.length c ∧ Small l ∧ n = l.length := by
  obtain ⟨A', c', e, h1, h2, h3, h4⟩ := h
  injection e with e1 e2 e3
  subst e1 e2 e3
  exact ⟨h1, h3, h4, rfl⟩
theorem set_kept (w : World) (b i : Nat) (u : Value) : Kept w (w.setCell ⟨b, i, none⟩ u) (fun k => k ≠ b) := (Kept.of_grown (set_grown w b i u)).imp fun k _ h e => h (by injection e)
theorem BagAt.setLost (h : BagAt T base w b r lost v xs L) (x : Int) : Turn T base w (w.setCell ⟨b, 1, none⟩ (.int .i64 x)) b v xs r x v xs L := by
  have K := set_kept w b 1 (.int .i64 x)
  refine ⟨⟨h.ty, by simp [World.setCell, Array.getElem?_modify, h.blk], ?_, h.rows.kept K (fun u hu a ha => ?_), h.lo⟩, K.imp fun k _ hk => hk.1, .inl rfl, fun u hu => .inl hu⟩
  · exact World.ownsRow.kept h.own (set_grown w b 1 _) (by
      cases e : v.ownBlock with
      | none => exact .inl rfl
      | some g => exact .inr fun e2 => h.header_ne h (by rw [e]; exact e2.symm))
  · obtain ⟨l, hl⟩ := h.rows.mem hu
    exact (h.not_five (hl.five ha)).1
/-- A new header in its place: the bag's block is as it was until then. -/
theorem BagAt.setHead {ys : List Value} {K : List (List Nat)} (hT : T = 49 ∨ T = 44) (hblk : w.heap[b]? = some (.cells #[.int .i64 r, .int .i64 lost, v] T (0, 0))) (own : w.ownsRow base 30 1 v' K.length ys) (rows : RowsOf w ys K) (hlo : base ≤ b) :
    BagAt T base (w.setCell ⟨b, 2, none⟩ v') b r lost v' ys K := by
  have hne : ∀ a e cur, w.heap[a]? = some (.cells cur e (0, 0)) → (e = 5 ∨ e = 30) → a ≠ b := by
    rintro a e cur ha he rfl
    rw [hblk] at ha
    injection ha with ha
    injection ha with _ h2
    rcases hT with e1 | e1 <;> rcases he with e2 | e2 <;> (rw [e1, e2] at h2; cases h2)
  refine ⟨hT, by simp [World.setCell, Array.getElem?_modify, hblk], ?_, rows.kept (set_kept w b 2 v') (fun u hu a ha => ?_), hlo⟩
  · exact World.ownsRow.kept own (set_grown w b 2 _) (by
      cases e : v'.ownBlock with
      | none => exact .inl rfl
      | some g =>
        obtain ⟨_, cur, hc⟩ := header_thirty own e
        exact .inr fun e2 => hne g 30 cur hc (.inr rfl) (by injection e2))
  · obtain ⟨l, hl⟩ := rows.mem hu
    obtain ⟨cur, hc⟩ := hl.five ha
    exact hne a 5 cur hc (.inl rfl)
/-- Behind an append onto the header the bag's block is as it was. -/
theorem head_free (h : BagAt T base w b r lost v xs L) (g : w.grownBy w' v.ownBlock) : w'.cell? ⟨b, 2, none⟩ = some v ∧ w'.frozen? ⟨b, 2, none⟩ = false ∧ w'.heap[b]? = some (.cells #[.int .i64 r, .int .i64 lost, v] T (0, 0)) := by
  have hb := (g.block b h.lt (h.header_ne h)).trans h.blk
  refine ⟨?_, by simp [World.frozen?, hb], hb⟩
  have := cell_of_row w' b 2 _ T (0, 0) hb; simpa using this
/-- An append onto the header, stored back. -/
theorem put_done {w0 w1 w2 : World} {v2 u : Value} {m : List Nat} (g1 : w0.grownBy w1 none) (D : BagAt T base w1 b r lost v xs L) (O : RowIs w1 u m) (hu : ∀ g, u.ownBlock = some g → w0.heap.size ≤ g)
    (o2 : w2.ownsRow base 30 1 v2 (L.length + 1) (xs ++ [u])) (g2 : w1.grownBy w2 v.ownBlock) (at2 : v2.ownBlock = v.ownBlock ∨ v2.ownBlock = some w1.heap.size) :
    Turn T base w0 (w2.setCell ⟨b, 2, none⟩ v2) b v xs r lost v2 (xs ++ [u]) (L ++ [m]) := by
  have K2 := Kept.of_grown g2
  have R2 : RowsOf w2 xs L := D.rows.kept K2 (fun x hx a ha e => by
    obtain ⟨l, hl⟩ := D.rows.mem hx
    exact (D.not_five (hl.five ha)).2 e)
  have O2 : RowIs w2 u m := O.kept K2 (fun a ha e => (D.not_five (O.five ha)).2 e)
  refine ⟨BagAt.setHead D.ty (head_free D g2).2.2 (by rw [List.length_append]; exact o2) (R2.append (RowsOf.one O2)) D.lo, ?_, ?_, ?_⟩
  · refine ((Kept.quiet (P := fun k => k ≠ b ∧ some k ≠ v.ownBlock) g1).trans (K2.trans (set_kept w2 b 2 v2))).imp fun k _ h => ⟨h, h.2, h.1⟩
  · rcases at2 with e | e
    · exact .inl e
    · refine .inr fun g hg => ?_
      rw [e] at hg
      injection hg with hg
      have := g1.size
      omega
  · intro x hx
    rcases List.mem_append.1 hx with h | h
    · exact .inl h
    · obtain rfl : x = u := by simpa using h
      exact .inr hu
set_option maxRecDepth 100000 in
theorem put_full (h : BagAt 49 base w b r lost v xs L) (hf : r ≤ (L.length : Int)) (hl : L.length ≤ 1000000) (h0 : 0 ≤ lost) (h1 : lost ≤ 1000000) (A : Option Addr) (n c : Nat) :
    Calls Try.prog 10 #[.pointer (some ⟨b, 0, none⟩), .slice A n c] w fun e w' => e = .returned (.int .i64 9) ∧ Turn 49 base w w' b v xs r (lost + 1) v xs L := by
  have c0 := h.cell0
  have c1 := h.cell1
  have c2 := h.cell2
  have f1 := h.free 1
  obtain ⟨A', c', rfl⟩ := header_form h.own
  have hd : decide (r ≤ (L.length : Int)) = true := by simpa using hf
  have H := fun n => h.quiet (drewN_grown w n)
  have HK := fun n => ((H n).setLost (lost + 1))
  go_enter Try.func10, Try.ntmps10
  go_wp2_with fail
  go_quiet (fail)
  go_wp2_with fail
  go_ret
  exact ⟨rfl, (HK _).first (drewN_grown w _)⟩
set_option maxRecDepth 100000 in
set_option maxHeartbeats 2000000 in
theorem put_yes (h : BagAt 49 base w b r lost v xs L) (hbase : base ≤ w.heap.size) (hf : (L.length : Int) < r) (hl : L.length ≤ 1000000) {B : Nat} {A : Option Addr} {c : Nat} {m : List Nat} (hm : BytesAt w B A m) (hB : B ≤ w.heap.size) (hr : Room A m.length c) (hs : Small m) (hml : m.length ≤ 1000000) :
    Calls Try.prog 10 #[.pointer (some ⟨b, 0, none⟩), .slice A m.length c] w fun e w' => ∃ v' u, e = .returned (.int .i64 0) ∧ Turn 49 base w w' b v xs r lost v' (xs ++ [u]) (L ++ [m]) := by
  obtain ⟨i0, hi, hz0, hz1, hz2⟩ := info_parts list_row
  have c0 := h.cell0
  have c2 := h.cell2
  obtain ⟨A', c', rfl⟩ := header_form h.own
  have hd : decide (r ≤ (L.length : Int)) = false := by simp; omega
  have H := fun n => h.quiet (drewN_grown w n)
  go_enter Try.func10, Try.ntmps10
  go_wp2_with fail
  go_quiet (fail)
  go_wp2_with fail
  have hm0 : ∀ n, BytesAt (w.drewN n) B A m := fun n => hm
  go_region_law (first
    | ((refine step_append_any _ rfl (.tmp 26) (.tmp 29) 42 (by rfl) base 30 i0 _ 1 24 Try.underlying42 hi hz0 hz1 hz2 rfl (by omega) _ _ _ (by rfl) own2 _ _ 1 1 [.slice A1 m.length c1] (by rfl) nw2 (by simp [Value.oneCell']) (by simp only [maxLen]; omega) (by omega) hbase2 ?_; intro v2 w2 o2 g2 at2; have f2 := head_free D2 g2; obtain ⟨f2, f3, f4⟩ := f2; obtain ⟨A3, c3, rfl⟩ := header_form o2))
    | (go_simp; go_at_call 24; refine (clone_all A c _ m _ (hm0 _) hr hml).mono ?_; rintro e w1 ⟨A1, c1, rfl, O1, b1⟩; have D1 := (H _).quiet (below_quiet2 b1); have D2 := D1.quiet (alloc_grown w1 (.cells #[.slice A1 m.length c1] 30)); have e1 := D1.cell2; have e2 := D2.cell2; have own2 := D2.own; have nw2 := one_reads w1 (.slice A1 m.length c1) (w1.heap.size + 1) (by omega); have hbase2 : base ≤ (w1.alloc (.cells #[.slice A1 m.length c1] 30)).heap.size := by (have h1 : w.heap.size ≤ w1.heap.size := b1.size; simp; omega)))
  all_goals
    have N0 : w.grownBy (w.drewN (nq + 1)) none := drewN_grown w _
    have M := put_done (u := .slice A1 m.length c1) (m := m) (grown_to N0 (grown_to (below_quiet2 b1) (alloc_grown w1 (.cells #[.slice A1 m.length c1] 30)))) D2 ((RowIs.own O1 hs).kept (P := fun _ => True) (Kept.quiet (alloc_grown w1 _)) (fun _ _ => trivial)) (fun g hg => by have := World.ownsRow.lt O1 g hg; exact this.1) o2 g2 at2
    go_wp2_with fail
    go_ret
    exact ⟨_, _, rfl, M⟩
end
end Go.Proofs.Ytdcmaikgkmamjaa
