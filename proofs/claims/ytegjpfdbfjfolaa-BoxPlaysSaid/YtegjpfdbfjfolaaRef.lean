/- The document's box: Put and Take of vokref10.Box. -/
import Derived.Test.YtegjpfdbfjfolaaTwo
import Derived.BigQuiet
namespace Go.Proofs.Ytegjpfdbfjfolaa
open Go.RowKit
/-- Is it a channel, or a box that holds one? -/
def isBox : Obj → Bool
  | .chan .. => true
  | .cells _ t _ => t == 53
  | _ => false
/-- Every box is as it was. -/
def KeepsBox (w w' : World) : Prop := ∀ (k : Nat) (o : Obj), w.heap[k]? = some o → isBox o = true → w'.heap[k]? = some o
theorem BoxAt.keeps {w w' : World} {b c cap : Nat} {l : List Int} (h : BoxAt w b c cap l) (k : KeepsBox w w') : BoxAt w' b c cap l := by
  obtain ⟨h1, s, r, h2⟩ := h
  exact ⟨k b _ h1 rfl, s, r, k c _ h2 rfl⟩
theorem KeepsBox.refl (w : World) : KeepsBox w w := fun _ _ h _ => h
theorem KeepsBox.trans {a b c : World} (h : KeepsBox a b) (k : KeepsBox b c) : KeepsBox a c := fun i o h1 h2 => k i o (h i o h1 h2) h2
theorem KeepsBox.grown {a b : World} {row : Option Nat} (g : a.grownBy b row) (hr : ∀ k o, row = some k → a.heap[k]? = some o → isBox o = false) : KeepsBox a b := by
  intro k o h1 h2
  have hlt : k < a.heap.size := by
    rcases Nat.lt_or_ge k a.heap.size with h | h
    · exact h
    · rw [Array.getElem?_eq_none h] at h1; cases h1
  rw [g.block k hlt (fun e => by have := hr k o e.symm h1; rw [this] at h2; cases h2), h1]
theorem own_notBox {w : World} {base n : Nat} {v : Value} {xs : List Value} (h : w.ownsRow base 3 1 v n xs) : ∀ k o, v.ownBlock = some k → w.heap[k]? = some o → isBox o = false := by
  intro k o e ho
  rcases h.2 with ⟨rfl, _⟩ | ⟨g, cap, cur, rfl, _, hg, _⟩
  · simp [Value.ownBlock] at e
  · simp [Value.ownBlock] at e
    subst e
    rw [hg] at ho
    injection ho with ho
    subst ho
    rfl
/-- The document's box: how much room, what it holds. -/
structure RefAt (B : Nat) (w : World) (x n : Nat) (l : List Int) (v : Value) : Prop where
  blk : w.heap[x]? = some (.cells #[.int .i64 (n : Int), v] 43 (0, 0))
  own : w.ownsRow B 3 1 v l.length (vals l)
  base : B ≤ x
section
variable {B : Nat} {w w' : World} {x n : Nat} {l : List Int} {v : Value}
theorem RefAt.lt (h : RefAt B w x n l v) : x < w.heap.size := by
  rcases Nat.lt_or_ge x w.heap.size with hlt | hge
  · exact hlt
  · have := h.blk; rw [Array.getElem?_eq_none hge] at this; cases this
theorem RefAt.cell0 (h : RefAt B w x n l v) : w.cell? ⟨x, 0, none⟩ = some (.int .i64 (n : Int)) := by
  have := cell_of_row w x 0 _ 43 (0, 0) h.blk; simpa using this
theorem RefAt.cell1 (h : RefAt B w x n l v) : w.cell? ⟨x, 1, none⟩ = some v := by
  have := cell_of_row w x 1 _ 43 (0, 0) h.blk; simpa using this
theorem RefAt.free (h : RefAt B w x n l v) (i : Nat) : w.frozen? ⟨x, i, none⟩ = false := by
  have := h.blk
  simp [World.frozen?, this]
theorem RefAt.ne_ (h : RefAt B w x n l v) : v.ownBlock ≠ some x := by
  intro e
  rcases h.own.2 with ⟨e1, _⟩ | ⟨g, cap, cur, e1, _, hg, _⟩
  · subst e1; simp [Value.ownBlock] at e
  · subst e1
    simp [Value.ownBlock] at e
    subst e
    rw [h.blk] at hg
    injection hg with hg
    injection hg with _ ht
    cases ht
theorem RefAt.grown (h : RefAt B w x n l v) {row : Option Nat} (g : w.grownBy w' row) (h1 : row ≠ some x) (h2 : v.ownBlock = none ∨ v.ownBlock ≠ row) : RefAt B w' x n l v :=
  ⟨(g.block x h.lt (fun e => h1 e.symm)).trans h.blk, h.own.kept g h2, h.base⟩
theorem RefAt.quiet (h : RefAt B w x n l v) (g : w.grownBy w' none) : RefAt B w' x n l v := h.grown g (by simp) (by cases v.ownBlock <;> simp)
/-- Behind a store into its second field. -/
theorem RefAt.stored {m : Nat} {k : List Int} {u : Value} (hb : w.heap[x]? = some (.cells #[.int .i64 (m : Int), u] 43 (0, 0))) (ho : w.ownsRow B 3 1 v k.length (vals k)) (hB : B ≤ x) : RefAt B (w.setCell ⟨x, 1, none⟩ v) x m k v := by
  have hlt : x < w.heap.size := by
    rcases Nat.lt_or_ge x w.heap.size with hlt | hge
    · exact hlt
    · rw [Array.getElem?_eq_none hge] at hb; cases hb
  refine ⟨?_, ?_, hB⟩
  · simp [World.setCell, Array.getElem?_modify, hb]
  · refine ho.kept (row := some x) ⟨rfl, rfl, rfl, by simp [World.setCell], fun i hi hne => Below.heap_setCell w _ v i (by rintro rfl; exact hne rfl)⟩ (.inr ?_)
    intro e
    rcases ho.2 with ⟨e1, _⟩ | ⟨g, cap, cur, e1, _, hg, _⟩
    · subst e1; simp [Value.ownBlock] at e
    · subst e1
      simp [Value.ownBlock] at e
      subst e
      rw [hb] at hg
      injection hg with hg
      injection hg with _ ht
      cases ht
end
theorem setCell_grown (w : World) (x i : Nat) (v : Value) : w.grownBy (w.setCell ⟨x, i, none⟩ v) (some x) :=
  ⟨rfl, rfl, rfl, by simp [World.setCell], fun i hi hne => Below.heap_setCell w _ v i (by rintro rfl; exact hne rfl)⟩
/-- What the document's box leaves alone. -/
def Apart_ (B : Nat) (w w' : World) : Prop := KeepsBox w w' ∧ Below B w w'
/-- What an append of one number onto a row leaves of the old world. -/
theorem appended {w w1 : World} {nq : Nat} {o : Obj} {row : Option Nat} (hg : ((w.drewN nq).alloc o).grownBy w1 row) : w.grownBy w1 row :=
  grown_trans (b := (w.drewN nq).alloc o) ⟨rfl, rfl, rfl, by simp, fun k hk _ => Below.heap_alloc (w.drewN nq) o k hk⟩ hg
theorem blk_cell {w : World} {x : Nat} {p q : Value} (h : w.heap[x]? = some (.cells #[p, q] 43 (0, 0))) : w.cell? ⟨x, 0, none⟩ = some p ∧ w.cell? ⟨x, 1, none⟩ = some q ∧ w.frozen? ⟨x, 1, none⟩ = false := by
  refine ⟨?_, ?_, ?_⟩
  · simpa using cell_of_row w x 0 _ 43 (0, 0) h
  · simpa using cell_of_row w x 1 _ 43 (0, 0) h
  · simp [World.frozen?, h]
theorem own_snoc {w : World} {base : Nat} {v : Value} {l : List Int} {m : Int} (h : w.ownsRow base 3 1 v (l.length + 1) (vals l ++ [.int .i64 m])) : w.ownsRow base 3 1 v (l ++ [m]).length (vals (l ++ [m])) := by
  have e1 : vals l ++ [Value.int .i64 m] = vals (l ++ [m]) := by simp [vals]
  have e2 : l.length + 1 = (l ++ [m]).length := by simp
  rw [← e1, ← e2]
  exact h
set_option maxHeartbeats 1000000 in
theorem ref_full {B x n : Nat} {l : List Int} {v : Value} {w : World} (h : RefAt B w x n l v) (hf : n ≤ l.length) (m : Int) :
    Calls Try.prog 15 #[.pointer (some ⟨x, 0, none⟩), .int .i64 m] w fun e w' => e = .returned (.int .i64 9) ∧ w.grownBy w' none := by
  have c0 := h.cell0
  have c1 := h.cell1
  obtain ⟨A, cp, rfl⟩ := own_form h.own
  have hd : decide (n ≤ l.length) = true := by simp; omega
  go_enter Try.func15, Try.ntmps15
  go_wp2_with fail
  go_quiet (fail)
  go_wp2_with fail
  go_ret
  exact ⟨rfl, drew_only _ _⟩
set_option maxHeartbeats 1000000 in
theorem ref_put {B x n : Nat} {l : List Int} {v : Value} {w : World} (h : RefAt B w x n l v) (hf : l.length < n) (hl : l.length ≤ 100000) (m : Int) :
    Calls Try.prog 15 #[.pointer (some ⟨x, 0, none⟩), .int .i64 m] w fun e w' => e = .returned (.int .i64 0) ∧ ∃ v', RefAt B w' x n (l ++ [m]) v' ∧ Apart_ B w w' := by
  have c0 := h.cell0
  have c1 := h.cell1
  have hfr := h.free 1
  have hown := h.own
  have hbase := h.base
  have hlt := h.lt
  obtain ⟨i0, hi, hz0, hz1, hz2⟩ := info_parts int_row
  obtain ⟨A, cp, hv⟩ := own_form h.own
  have hd : decide (n ≤ l.length) = false := by simp; omega
  subst hv
  go_enter Try.func15, Try.ntmps15
  go_wp2_with fail
  go_quiet (fail)
  go_wp2_with (at_builtin; refine wpList_append_own _ rfl _ _ 22 rfl B 3 i0 (.int .i64 0) 1 8 Try.underlying22 hi hz0 hz1 hz2 rfl (by decide) (.slice A l.length cp) _ _ rfl (World.ownsRow.alloc (w := w.drewN nq) hown _) ⟨w.heap.size, 0, none⟩ 1 1 [.int .i64 m] rfl rfl (cell_list (w := w.drewN nq)) (by intro u hu; simp at hu; subst hu; rfl) (by unfold maxLen; omega) (by omega) (by simp; omega) ?_; intro v' w1 hown1 hg1 _; have hg2 := appended hg1; have hown2 := own_snoc hown1; obtain ⟨A1, cp1, rfl⟩ := own_form hown2; have hx1 := (hg2.block x hlt (fun e => h.ne_ e.symm)).trans h.blk; obtain ⟨_, hk1, hk2⟩ := blk_cell hx1)
  go_ret
  have hst := RefAt.stored hx1 hown2 hbase
  rw [show (l ++ [m]).length = l.length + 1 by simp] at hst
  refine ⟨rfl, _, hst, ?_, ?_⟩
  · refine (KeepsBox.grown hg2 (own_notBox hown)).trans (KeepsBox.grown (setCell_grown _ _ _ _) (fun k o e ho => ?_))
    injection e with e
    subst e
    rw [hx1] at ho
    injection ho with ho
    subst ho
    rfl
  · exact ((Below.refl B w).grown hg2 (by omega) (fun g hg => (hown.lt g hg).1)).setCell hbase _
theorem own_cap {w : World} {base n cp : Nat} {A : Option Addr} {xs : List Value} (h : w.ownsRow base 3 1 (.slice A n cp) n xs) : n ≤ cp := by
  rcases h.2 with ⟨e1, _⟩ | ⟨g, cap, cur, e1, _, _, hn, _⟩
  · injection e1 with _ h1 h2; omega
  · injection e1 with _ h1 h2; omega
/-- What is left of a list whose first number is taken: the slice from 1 on. -/
theorem own_reads_tail {w : World} {base g cp : Nat} {m : Int} {l : List Int} {v : Value} (h : w.ownsRow base 3 1 v (m :: l).length (vals (m :: l))) (hv : v = .slice (some ⟨g, 0, none⟩) (m :: l).length cp) :
    Reads w w.heap.size 1 (if cp = 1 then some ⟨g, 0, none⟩ else some ⟨g, 1, none⟩) l.length (vals l) := by
  subst hv
  have h1 : Reads w w.heap.size 1 (some ⟨g, 0, none⟩) (m :: l).length (vals (m :: l)) := Reads.of_own h
  have h2 := h1.cut (k := 1) (cap := cp) (by simp) (own_cap h)
  simpa [vals, Addr.add] using h2
theorem own_zero {w : World} {base : Nat} {v : Value} {l : List Int} (h : w.ownsRow base 3 1 v (0 + l.length) ([] ++ vals l)) : w.ownsRow base 3 1 v l.length (vals l) := by simpa using h
theorem made_grown {w w1 : World} {o : Obj} (hg : (w.alloc o).grownBy w1 (Value.slice (some ⟨w.heap.size, 0, none⟩) 0 0).ownBlock) : w.grownBy w1 none :=
  grown_new (World.grownBy_alloc w o none) hg (by intro g e; simp [Value.ownBlock] at e; omega)
theorem taken {B x n : Nat} {u v : Value} {w w1 : World} (hg : w.grownBy w1 none) (hx : w1.heap[x]? = some (.cells #[.int .i64 (n : Int), u] 43 (0, 0))) (hB : B ≤ x) (hw : B ≤ w.heap.size) : Apart_ B w (w1.setCell ⟨x, 1, none⟩ v) := by
  refine ⟨(KeepsBox.grown hg (by simp)).trans (KeepsBox.grown (setCell_grown _ _ _ _) (fun k o e ho => ?_)), ((Below.refl B w).grown hg hw (by simp)).setCell hB _⟩
  injection e with e
  subst e
  rw [hx] at ho
  injection ho with ho
  subst ho
  rfl
set_option maxHeartbeats 1000000 in
theorem ref_none {B x n : Nat} {v : Value} {w : World} (h : RefAt B w x n [] v) :
    Calls Try.prog 16 #[.pointer (some ⟨x, 0, none⟩)] w fun e w' => e = .returned (.tuple #[.int .i64 0, .bool false]) ∧ w.grownBy w' none := by
  have c0 := h.cell0
  have c1 := h.cell1
  obtain ⟨A, cp, rfl⟩ := own_form h.own
  go_enter Try.func16, Try.ntmps16
  go_wp2_with fail
  go_ret2
  exact ⟨rfl, World.grownBy.refl _ _⟩
set_option maxHeartbeats 1000000 in
theorem ref_take {B x n : Nat} {m : Int} {l : List Int} {v : Value} {w : World} (h : RefAt B w x n (m :: l) v) (hl : l.length ≤ 100000) :
    Calls Try.prog 16 #[.pointer (some ⟨x, 0, none⟩)] w fun e w' => e = .returned (.tuple #[.int .i64 m, .bool true]) ∧ ∃ v', RefAt B w' x n l v' ∧ Apart_ B w w' := by
  have c0 := h.cell0
  have c1 := h.cell1
  have hfr := h.free 1
  have hbase := h.base
  have hlt := h.lt
  have hBw : B ≤ w.heap.size := by omega
  obtain ⟨i0, hi, hz0, hz1, hz2⟩ := info_parts int_row
  obtain ⟨g, cp, hv, hbg, hgw⟩ := h.own.form (by simp)
  have hreads := own_reads_tail h.own hv
  subst hv
  have hcell0 : w.cell? ⟨g, 0, none⟩ = some (.int .i64 m) := by
    have := h.own.cells (g := g) (by simp [Value.ownBlock]) 0 (.int .i64 m) (by simp [vals])
    simpa [Addr.add] using this
  have hcp : l.length + 1 ≤ cp := own_cap h.own
  have hz : ((l.length : Int) + 1 == 0) = false := by rw [beq_eq_false_iff_ne]; omega
  have hown := World.ownsRow_made w (base := B) (e := 3) (size := 1) #[] 0 hBw (by simp [maxLen]) rfl
  have hx0 := h.blk
  have hgx : g ≠ x := by
    have := h.ne_
    simpa [Value.ownBlock] using this
  have key : ∀ (A' : Option Addr), (if cp = 1 then some (⟨g, 0, none⟩ : Addr) else some ⟨g, 1, none⟩) = A' → Reads (w.alloc (.cells #[] 3)) w.heap.size 1 A' l.length (vals l) := by
    intro A' e
    rw [e] at hreads
    exact hreads.alloc (Nat.le_refl _) _
  clear hreads
  have HK := Lib.hid key
  clear key
  by_cases hc1 : cp = 1
  · subst hc1
    have hr := HK.out _ (if_pos rfl)
    obtain rfl : l = [] := List.eq_nil_of_length_eq_zero (by omega)
    clear HK hcp
    go_enter Try.func16, Try.ntmps16
    go_wp2_with (at_builtin; refine wpList_append_any _ rfl (.tmp 18) (.tmp 23) _ rfl B 3 i0 _ 1 8 Try.underlying22 hi hz0 hz1 hz2 rfl (by omega) (.slice (some ⟨w.heap.size, 0, none⟩) 0 0) 0 [] rfl hown w.heap.size (some ⟨g, 0, none⟩) 0 0 (vals []) rfl hr (vals_one []) (by simp only [maxLen]; omega) (by omega) (by simp; omega) ?_; intro v1 w1 hown1 hg1 hat1; have hown2 := own_zero (l := []) hown1; obtain ⟨A1, cp1, rfl⟩ := own_form hown2; have hg2 := made_grown hg1; have hx1 := (hg2.block x hlt (by simp)).trans hx0; obtain ⟨_, hk1, hk2⟩ := blk_cell hx1)
    go_ret2
    exact ⟨rfl, _, RefAt.stored hx1 hown2 hbase, taken hg2 hx1 hbase hBw⟩
  · have hr := HK.out _ (if_neg hc1)
    clear HK
    go_enter Try.func16, Try.ntmps16
    go_wp2_with (at_builtin; refine wpList_append_any _ rfl (.tmp 18) (.tmp 23) _ rfl B 3 i0 _ 1 8 Try.underlying22 hi hz0 hz1 hz2 rfl (by omega) (.slice (some ⟨w.heap.size, 0, none⟩) 0 0) 0 [] rfl hown w.heap.size (some ⟨g, 1, none⟩) l.length (cp - 1) (vals l) rfl hr (vals_one l) (by simp only [maxLen]; omega) (by omega) (by simp; omega) ?_; intro v1 w1 hown1 hg1 hat1; have hown2 := own_zero hown1; obtain ⟨A1, cp1, rfl⟩ := own_form hown2; have hg2 := made_grown hg1; have hx1 := (hg2.block x hlt (by simp)).trans hx0; obtain ⟨_, hk1, hk2⟩ := blk_cell hx1)
    go_ret2
    exact ⟨rfl, _, RefAt.stored hx1 hown2 hbase, taken hg2 hx1 hbase hBw⟩
end Go.Proofs.Ytegjpfdbfjfolaa
