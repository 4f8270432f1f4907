/- A bag on memory; New, Len, Lost. -/
import Derived.Test.YtdcmaikgkmamjaaBase
import Derived.Deep.QuietTactic
import Derived.BigQuiet
namespace Go.Proofs.Ytdcmaikgkmamjaa
open Go.RowKit
set_option linter.unusedVariables false
attribute [local go_sem ↓] Go.wp_at_zero Go.wp_at_succ
/-- Which blocks are as they were. -/
structure Kept (w w' : World) (P : Nat → Prop) : Prop where
  os : w'.os = w.os
  tape : w'.tape = w.tape
  output : w'.output = w.output
  size : w.heap.size ≤ w'.heap.size
  block : ∀ k, k < w.heap.size → P k → w'.heap[k]? = w.heap[k]?
section
variable {w w' w2 : World} {P Q : Nat → Prop}
theorem Kept.of_grown {row : Option Nat} (g : w.grownBy w' row) : Kept w w' (fun k => some k ≠ row) := ⟨g.os, g.tape, g.output, g.size, g.block⟩
theorem Kept.trans (h : Kept w w' P) (k : Kept w' w2 Q) : Kept w w2 (fun n => P n ∧ Q n) :=
  ⟨k.os.trans h.os, k.tape.trans h.tape, k.output.trans h.output, Nat.le_trans h.size k.size, fun i hi hp => (k.block i (Nat.lt_of_lt_of_le hi h.size) hp.2).trans (h.block i hi hp.1)⟩
theorem Kept.imp (h : Kept w w' P) (hQ : ∀ k, k < w.heap.size → Q k → P k) : Kept w w' Q := ⟨h.os, h.tape, h.output, h.size, fun k hk hq => h.block k hk (hQ k hk hq)⟩
theorem Kept.below {W : World} {B : Nat} (b : Below B W w) (h : Kept w w' P) (hB : B ≤ w.heap.size) (hP : ∀ k, k < B → P k) : Below B W w' :=
  ⟨h.os.trans b.os, h.tape.trans b.tape, h.output.trans b.output, Nat.le_trans b.size h.size, fun i hi => (h.block i (Nat.lt_of_lt_of_le hi hB) (hP i hi)).trans (b.block i hi)⟩
theorem Kept.quiet (g : w.grownBy w' none) : Kept w w' P := (Kept.of_grown g).imp fun _ _ _ => by simp
end
/-- A value is a slice that reads as the bytes l; its block holds bytes. -/
def RowIs (w : World) (v : Value) (l : List Nat) : Prop :=
  ∃ A c, v = .slice A l.length c ∧ BytesAt w w.heap.size A l ∧ (∀ ad, A = some ad → ∃ cur, w.heap[ad.block]? = some (.cells cur 5 (0, 0))) ∧ Room A l.length c ∧ Small l
theorem BytesAt.kept {w w' : World} {A : Option Addr} {l : List Nat} {P : Nat → Prop} (h : BytesAt w w.heap.size A l) (g : Kept w w' P) (hne : ∀ ad, A = some ad → P ad.block) : BytesAt w' w'.heap.size A l := by
  refine ⟨h.1, fun hn => ?_⟩
  obtain ⟨ad, e, hb, hc⟩ := h.2 hn
  refine ⟨ad, e, Nat.lt_of_lt_of_le hb g.size, fun j u hu => ?_⟩
  have hbl : (ad.add j).block = ad.block := block_of_add _ _
  have h1 : w'.cell? (ad.add j) = w.cell? (ad.add j) := World.cell?_of_block (by rw [hbl]; exact g.block _ hb (hne ad e))
  rw [h1]
  exact hc j u hu
theorem RowIs.kept {w w' : World} {v : Value} {l : List Nat} {P : Nat → Prop} (h : RowIs w v l) (g : Kept w w' P) (hne : ∀ a, v.ownBlock = some a → P a) : RowIs w' v l := by
  obtain ⟨A, c, rfl, h1, h2, h3, h4⟩ := h
  have hP : ∀ ad, A = some ad → P ad.block := fun ad e => hne _ (by rw [e]; rfl)
  refine ⟨A, c, rfl, h1.kept g hP, fun ad e => ?_, h3, h4⟩
  obtain ⟨cur, hc⟩ := h2 ad e
  exact ⟨cur, (g.block _ (Array.getElem?_eq_some_iff.1 hc).1 (hP ad e)).trans hc⟩
theorem RowIs.own {w : World} {base c : Nat} {A : Option Addr} {l : List Nat} (h : Own w base (.slice A l.length c) l) (hs : Small l) : RowIs w (.slice A l.length c) l := by
  obtain ⟨h1, h2, h3⟩ := h.file
  exact ⟨A, c, rfl, h1, h2, h3, hs⟩
theorem RowIs.five {w : World} {v : Value} {l : List Nat} (h : RowIs w v l) {a : Nat} (ha : v.ownBlock = some a) : ∃ cur, w.heap[a]? = some (.cells cur 5 (0, 0)) := by
  obtain ⟨A, c, rfl, h1, h2, h3, h4⟩ := h
  cases A with
  | none => cases ha
  | some ad => injection ha with ha; subst ha; exact h2 ad rfl
/-- Slices that read as rows of bytes. -/
structure RowsOf (w : World) (xs : List Value) (L : List (List Nat)) : Prop where
  len : xs.length = L.length
  row : ∀ (k : Nat) (v : Value) (l : List Nat), xs[k]? = some v → L[k]? = some l → RowIs w v l
section
variable {w w' : World} {xs ys : List Value} {L K : List (List Nat)} {P : Nat → Prop}
theorem RowsOf.nil : RowsOf w [] [] := ⟨rfl, fun k v l h => by simp at h⟩
theorem RowsOf.get (h : RowsOf w xs L) {k : Nat} (hk : k < L.length) : ∃ v, xs[k]? = some v ∧ RowIs w v L[k] :=
  ⟨xs[k]'(by rw [h.len]; exact hk), List.getElem?_eq_getElem _, h.row k _ _ (List.getElem?_eq_getElem _) (List.getElem?_eq_getElem hk)⟩
theorem RowsOf.mem (h : RowsOf w xs L) {v : Value} (hv : v ∈ xs) : ∃ l, RowIs w v l := by
  obtain ⟨k, hk⟩ := List.mem_iff_getElem?.1 hv
  have hk2 : k < L.length := by have := (List.getElem?_eq_some_iff.1 hk).1; rw [← h.len]; exact this
  exact ⟨_, h.row k v _ hk (List.getElem?_eq_getElem hk2)⟩
theorem RowsOf.kept (h : RowsOf w xs L) (g : Kept w w' P) (hne : ∀ v ∈ xs, ∀ a, v.ownBlock = some a → P a) : RowsOf w' xs L :=
  ⟨h.len, fun k v l hv hl => (h.row k v l hv hl).kept g (hne v (List.mem_of_getElem? hv))⟩
theorem RowsOf.append (h : RowsOf w xs L) (h' : RowsOf w ys K) : RowsOf w (xs ++ ys) (L ++ K) := by
  refine ⟨by simp [h.len, h'.len], fun k v l hv hl => ?_⟩
  rw [List.getElem?_append] at hv hl
  rw [h.len] at hv
  split at hv
  · rename_i hk
    rw [if_pos hk] at hl
    exact h.row k v l hv hl
  · rename_i hk
    rw [if_neg hk] at hl
    exact h'.row _ v l hv hl
theorem RowsOf.one {v : Value} {l : List Nat} (h : RowIs w v l) : RowsOf w [v] [l] := by
  refine ⟨rfl, fun k v' l' hv hl => ?_⟩
  cases k with
  | zero => simp at hv hl; subst hv hl; exact h
  | succ k => simp at hv
theorem RowsOf.take (h : RowsOf w xs L) (n : Nat) : RowsOf w (xs.take n) (L.take n) := by
  refine ⟨by simp [h.len], fun k v l hv hl => ?_⟩
  rw [List.getElem?_take] at hv hl
  split at hv
  · rename_i hk
    rw [if_pos hk] at hl
    exact h.row k v l hv hl
  · cases hv
theorem RowsOf.drop (h : RowsOf w xs L) (n : Nat) : RowsOf w (xs.drop n) (L.drop n) := by
  refine ⟨by simp [h.len], fun k v l hv hl => ?_⟩
  rw [List.getElem?_drop] at hv hl
  exact h.row _ v l hv hl
theorem RowsOf.one_cell (h : RowsOf w xs L) : ∀ u ∈ xs, u.oneCell' = true := by
  intro u hu
  obtain ⟨l, A, c, rfl, _⟩ := h.mem hu
  rfl
end
/-- The bag at block b (of type T): its room, how many it lost, its header, its rows. -/
structure BagAt (T base : Nat) (w : World) (b : Nat) (r lost : Int) (v : Value) (xs : List Value) (L : List (List Nat)) : Prop where
  ty : T = 49 ∨ T = 44
  blk : w.heap[b]? = some (.cells #[.int .i64 r, .int .i64 lost, v] T (0, 0))
  own : w.ownsRow base 30 1 v L.length xs
  rows : RowsOf w xs L
  lo : base ≤ b
section
variable {T T' base : Nat} {w w' : World} {b c : Nat} {r lost r' lost' : Int} {v v' : Value} {xs ys : List Value} {L K : List (List Nat)}
theorem BagAt.lt (h : BagAt T base w b r lost v xs L) : b < w.heap.size := by
  rcases Nat.lt_or_ge b w.heap.size with hlt | hge
  · exact hlt
  · have := h.blk; rw [Array.getElem?_eq_none hge] at this; cases this
theorem BagAt.cell0 (h : BagAt T base w b r lost v xs L) : w.cell? ⟨b, 0, none⟩ = some (.int .i64 r) := by
  have := cell_of_row w b 0 _ T (0, 0) h.blk; simpa using this
theorem BagAt.cell1 (h : BagAt T base w b r lost v xs L) : w.cell? ⟨b, 1, none⟩ = some (.int .i64 lost) := by
  have := cell_of_row w b 1 _ T (0, 0) h.blk; simpa using this
theorem BagAt.cell2 (h : BagAt T base w b r lost v xs L) : w.cell? ⟨b, 2, none⟩ = some v := by
  have := cell_of_row w b 2 _ T (0, 0) h.blk; simpa using this
theorem BagAt.free (h : BagAt T base w b r lost v xs L) (i : Nat) : w.frozen? ⟨b, i, none⟩ = false := by
  have := h.blk
  simp [World.frozen?, this]
theorem header_form {base n : Nat} {v : Value} {xs : List Value} {w : World} (h : w.ownsRow base 30 1 v n xs) : ∃ A c, v = .slice A n c := by
  rcases h.2 with ⟨rfl, hx⟩ | ⟨g, cp, cur, rfl, _⟩
  · have hn : n = 0 := hx
    subst hn
    exact ⟨none, 0, rfl⟩
  · exact ⟨_, _, rfl⟩
theorem header_thirty {base n : Nat} {v : Value} {xs : List Value} {w : World} (h : w.ownsRow base 30 1 v n xs) {g : Nat} (hg : v.ownBlock = some g) : base ≤ g ∧ ∃ cur, w.heap[g]? = some (.cells cur 30 (0, 0)) := by
  rcases h.2 with ⟨rfl, hx⟩ | ⟨g', cp, cur, rfl, hb, hc, _⟩
  · cases hg
  · injection hg with hg; subst hg; exact ⟨hb, cur, hc⟩
/-- Blocks of bytes are no bags' and no headers'. -/
theorem BagAt.not_five (h : BagAt T base w b r lost v xs L) {a : Nat} (ha : ∃ cur, w.heap[a]? = some (.cells cur 5 (0, 0))) : a ≠ b ∧ some a ≠ v.ownBlock := by
  obtain ⟨cur, hc⟩ := ha
  refine ⟨?_, fun e => ?_⟩
  · rintro rfl
    rw [h.blk] at hc
    injection hc with hc
    injection hc with _ h2
    rcases h.ty with e | e <;> (rw [e] at h2; cases h2)
  · obtain ⟨_, cur', hc'⟩ := header_thirty h.own e.symm
    rw [hc] at hc'
    injection hc' with hc'
    injection hc' with _ h2
    cases h2
theorem BagAt.header_ne (h : BagAt T base w b r lost v xs L) (h' : BagAt T' base w c r' lost' v' ys K) : some b ≠ v'.ownBlock := by
  intro e
  obtain ⟨_, cur', hc'⟩ := header_thirty h'.own e.symm
  rw [h.blk] at hc'
  injection hc' with hc'
  injection hc' with _ h2
  rcases h.ty with e | e <;> (rw [e] at h2; cases h2)
theorem BagAt.kept {P : Nat → Prop} (h : BagAt T base w b r lost v xs L) (g : Kept w w' P) (h1 : P b) (h2 : ∀ a, v.ownBlock = some a → P a) (h3 : ∀ u ∈ xs, ∀ a, u.ownBlock = some a → P a) : BagAt T base w' b r lost v xs L := by
  refine ⟨h.ty, (g.block b h.lt h1).trans h.blk, ⟨h.own.1, ?_⟩, h.rows.kept g h3, h.lo⟩
  rcases h.own.2 with hn | ⟨a, cp, cur, rfl, hb, hc, rest⟩
  · exact .inl hn
  · exact .inr ⟨a, cp, cur, rfl, hb, (g.block a (Array.getElem?_eq_some_iff.1 hc).1 (h2 a rfl)).trans hc, rest⟩
theorem BagAt.quiet (h : BagAt T base w b r lost v xs L) (g : w.grownBy w' none) : BagAt T base w' b r lost v xs L :=
  h.kept (P := fun _ => True) (Kept.quiet g) trivial (fun _ _ => trivial) (fun _ _ _ _ => trivial)
/-- What an operation of a bag leaves. -/
structure Turn (T base : Nat) (w w' : World) (b : Nat) (v : Value) (xs : List Value) (r lost : Int) (v' : Value) (xs' : List Value) (L' : List (List Nat)) : Prop where
  bag : BagAt T base w' b r lost v' xs' L'
  kept : Kept w w' (fun k => k ≠ b ∧ some k ≠ v.ownBlock)
  head : v'.ownBlock = v.ownBlock ∨ ∀ g, v'.ownBlock = some g → w.heap.size ≤ g
  rows : ∀ u ∈ xs', u ∈ xs ∨ ∀ g, u.ownBlock = some g → w.heap.size ≤ g
theorem BagAt.turn (h : BagAt T base w b r lost v xs L) (g : w.grownBy w' none) : Turn T base w w' b v xs r lost v xs L :=
  ⟨h.quiet g, Kept.quiet g, .inl rfl, fun u hu => .inl hu⟩
/-- Two headers lie apart. -/
def Ap (v v' : Value) : Prop := ∀ g, v.ownBlock = some g → v'.ownBlock ≠ some g
theorem Ap.symm {v v' : Value} (h : Ap v v') : Ap v' v := fun g h1 h2 => h g h2 h1
/-- Another bag, apart from this one, stays. -/
theorem Turn.other {xs' : List Value} {L' : List (List Nat)} {lost'' r'' : Int} {v'' : Value} (t : Turn T base w w' b v xs r'' lost'' v'' xs' L') (h : BagAt T base w b r lost v xs L) (o : BagAt T' base w c r' lost' v' ys K) (hbc : c ≠ b) (hv : Ap v' v) :
    BagAt T' base w' c r' lost' v' ys K ∧ Ap v' v'' := by
  refine ⟨o.kept t.kept ⟨hbc, o.header_ne h⟩ (fun a ha => ⟨fun e => ?_, fun e => hv a ha e.symm⟩) (fun u hu a ha => ?_), ?_⟩
  · exact h.header_ne o (by rw [ha, e])
  · obtain ⟨l, hl⟩ := o.rows.mem hu
    exact h.not_five (hl.five ha)
  · intro g h1 h2
    rcases t.head with e | e
    · exact hv g h1 (by rw [← e]; exact h2)
    · have h3 := e g h2
      obtain ⟨_, cur, hc⟩ := header_thirty o.own h1
      have := (Array.getElem?_eq_some_iff.1 hc).1
      omega
theorem BagAt.new_ (w : World) (r : Int) (hT : T = 49 ∨ T = 44) (hb : base ≤ w.heap.size) : BagAt T base (w.alloc (.cells #[.int .i64 r, .int .i64 0, .slice none 0 0] T)) w.heap.size r 0 (.slice none 0 0) [] [] :=
  ⟨hT, heap_alloc_new w _, World.ownsRow_nil _ _ _ _, RowsOf.nil, hb⟩
set_option maxRecDepth 100000 in
theorem new_yes (r : Int) (h1 : 1 ≤ r) (h2 : r ≤ 10000) (w : World) :
    Calls Try.prog 8 #[.int .i64 r] w fun e w' => e = .returned (.tuple #[.pointer (some ⟨w.heap.size, 0, none⟩), .int .i64 0]) ∧ w.alloc (.cells #[.int .i64 r, .int .i64 0, .slice none 0 0] 49) = w' := by
  go_enter Try.func8, Try.ntmps8
  go_wp2_with fail
  go_ret2
  exact ⟨rfl, rfl⟩
theorem new_no (r : Int) (h : ¬ (1 ≤ r ∧ r ≤ 10000)) (w : World) :
    Calls Try.prog 8 #[.int .i64 r] w fun e w' => e = .returned (.tuple #[.pointer none, .int .i64 1]) ∧ w = w' := by
  rcases (show r < 1 ∨ (¬ r < 1 ∧ 10000 < r) by omega) with q | ⟨q, q2⟩
  all_goals
    clear h
    go_enter Try.func8, Try.ntmps8
    go_wp2_with fail
    go_ret2
    exact ⟨rfl, rfl⟩
set_option maxRecDepth 100000 in
theorem len_any (h : BagAt 49 base w b r lost v xs L) :
    Calls Try.prog 12 #[.pointer (some ⟨b, 0, none⟩)] w fun e w' => e = .returned (.int .i64 L.length) ∧ w = w' := by
  have c2 := h.cell2
  obtain ⟨A, c, rfl⟩ := header_form h.own
  go_enter Try.func12, Try.ntmps12
  go_wp2_with fail
  go_ret
  exact ⟨rfl, rfl⟩
set_option maxRecDepth 100000 in
theorem lost_any (h : BagAt 49 base w b r lost v xs L) :
    Calls Try.prog 17 #[.pointer (some ⟨b, 0, none⟩)] w fun e w' => e = .returned (.int .i64 lost) ∧ w = w' := by
  have c1 := h.cell1
  go_enter Try.func17, Try.ntmps17
  go_wp2_with fail
  go_ret
  exact ⟨rfl, rfl⟩
end
end Go.Proofs.Ytdcmaikgkmamjaa
