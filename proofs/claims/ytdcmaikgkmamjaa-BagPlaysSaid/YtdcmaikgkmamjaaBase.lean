/- Words on memory (written by mkbase.py). -/
import Derived.Test.YtdcmaikgkmamjaaCopy
import Derived.Deep.RegionHeld3
import Derived.Deep.DrawnRows
namespace Go.Proofs.Ytdcmaikgkmamjaa
open Go.RowKit
set_option linter.unusedVariables false
attribute [local go_sem ↓] Go.wp_at_zero Go.wp_at_succ
/-- A slice's room. -/
structure Room (A : Option Addr) (n c : Nat) : Prop where
  le : n ≤ c
  max : c ≤ maxLen
  nil : A = none → c = 0
theorem BytesAt.off_grown {w w' : World} {A : Option Addr} {l : List Nat} {row : Option Nat} (h : BytesAt w w.heap.size A l) (g : w.grownBy w' row) (hne : ∀ ad, A = some ad → some ad.block ≠ row) : BytesAt w' w'.heap.size A l := by
  refine ⟨h.1, fun hn => ?_⟩
  obtain ⟨ad, e, hb, hc⟩ := h.2 hn
  refine ⟨ad, e, Nat.lt_of_lt_of_le hb g.size, fun j u hu => g.cell (hc j u hu) ?_⟩
  rw [block_of_add]
  exact hne ad e
theorem set_grown (w : World) (d i : Nat) (v : Value) : w.grownBy (w.setCell ⟨d, i, none⟩ v) (some d) :=
  ⟨rfl, rfl, rfl, by simp [World.setCell], fun k hk hne => Below.heap_setCell w _ v k (by rintro rfl; exact hne rfl)⟩
theorem Own.from_ {w : World} {base c : Nat} {A : Option Addr} {l : List Nat} (h : Own w base (.slice A l.length c) l) : ∀ ad, A = some ad → base ≤ ad.block := by
  intro ad e
  subst e
  rcases h.2 with ⟨e, _⟩ | ⟨g, cp, cur, e, hb, _⟩
  · injection e with e; cases e
  · injection e with e
    injection e with e
    subst e
    exact hb
/-- A row of one's own: it reads, its block holds bytes, it has room. -/
theorem Own.file {w : World} {base c : Nat} {A : Option Addr} {l : List Nat} (h : Own w base (.slice A l.length c) l) : BytesAt w w.heap.size A l ∧ (∀ ad, A = some ad → ∃ cur, w.heap[ad.block]? = some (.cells cur 5 (0, 0))) ∧ Room A l.length c := by
  refine ⟨h.reads, ?_, ?_⟩
  · intro ad e
    subst e
    rcases h.2 with ⟨e, _⟩ | ⟨g, cp, cur, e, hb, hg, _⟩
    · injection e with e; cases e
    · injection e with e
      injection e with e
      subst e
      exact ⟨cur, hg⟩
  · rcases h.2 with ⟨e, _⟩ | ⟨g, cp, cur, e, _, _, hn, hm, _⟩
    · injection e with e1 e2 e3
      subst e1 e3
      exact ⟨by rw [e2]; exact Nat.le_refl _, by simp, fun _ => rfl⟩
    · injection e with e1 e2 e3
      subst e1 e3
      exact ⟨hn, hm, fun e => by cases e⟩
theorem clone_nil (w : World) : Calls Try.prog 24 #[.slice none 0 0] w fun e w' => e = .returned (.slice none 0 0) ∧ w = w' := by
  have hnil : ∀ W, (binOp .eql 30 (.slice none 0 0) (.slice none 0 0)).run Try.prog W = .ok (.bool true) W := fun W => Lib.run_eql_slice_nil_nil W _ _ Try.underlying30
  go_enter Try.func24, Try.ntmps24
  go_wp2_with fail
  go_ret
  exact ⟨rfl, rfl⟩
/-- Clone, of any slice. -/
theorem clone_all (A : Option Addr) (c B : Nat) (l : List Nat) (w : World) (ha : BytesAt w B A l) (hr : Room A l.length c) (hl : l.length ≤ 1000000) :
    Calls Try.prog 24 #[.slice A l.length c] w fun e w' => ∃ A' c', e = .returned (.slice A' l.length c') ∧ Own w' w.heap.size (.slice A' l.length c') l ∧ Below w.heap.size w w' := by
  cases A with
  | some a => exact clone_any a c B l w ha hl
  | none =>
    have hl0 : l = [] := by
      cases l with
      | nil => rfl
      | cons x l => obtain ⟨ad, e, _⟩ := ha.get (k := 0) (by simp); cases e
    subst hl0
    have hc := hr.nil rfl
    subst hc
    exact (clone_nil w).mono fun e w' ⟨he, hw⟩ => ⟨none, 0, he, World.ownsRow_nil _ _ _ _, hw ▸ Below.refl _ _⟩
theorem below_quiet2 {w w' : World} (hb : Below w.heap.size w w') : w.grownBy w' none := ⟨hb.os, hb.tape, hb.output, hb.size, fun i hi _ => hb.block i hi⟩
theorem grown_to {a b c : World} {row : Option Nat} (h : a.grownBy b none) (k : b.grownBy c row) : a.grownBy c row :=
  ⟨k.os.trans h.os, k.tape.trans h.tape, k.output.trans h.output, Nat.le_trans h.size k.size, fun i hi hne => (k.block i (Nat.lt_of_lt_of_le hi h.size) hne).trans (h.block i hi (by simp))⟩
theorem drew_one (w : World) : w.grownBy w.drew none := ⟨rfl, rfl, rfl, Nat.le_refl _, fun _ _ _ => rfl⟩
theorem grown_on {a b c : World} {row : Option Nat} (h : a.grownBy b row) (k : b.grownBy c row) : a.grownBy c row :=
  ⟨k.os.trans h.os, k.tape.trans h.tape, k.output.trans h.output, Nat.le_trans h.size k.size, fun i hi hne => (k.block i (Nat.lt_of_lt_of_le hi h.size) hne).trans (h.block i hi hne)⟩
theorem grown_new {a b c : World} {r : Option Nat} (h : a.grownBy b r) {row : Option Nat} (k : b.grownBy c row) (hr : ∀ g, row = some g → a.heap.size ≤ g) : a.grownBy c r :=
  ⟨k.os.trans h.os, k.tape.trans h.tape, k.output.trans h.output, Nat.le_trans h.size k.size, fun i hi hne => (k.block i (Nat.lt_of_lt_of_le hi h.size) (fun e => by have := hr i e.symm; omega)).trans (h.block i hi hne)⟩
theorem own_more {w : World} {base n : Nat} {v : Value} {l k : List Nat} (h : w.ownsRow base 5 1 v n (bys l ++ bys k)) (e : n = l.length + k.length) : Own w base v (l ++ k) := by
  subst e
  unfold Own
  simpa [bys] using h
theorem drewN_grown (w : World) (n : Nat) : w.grownBy (w.drewN n) none := ⟨rfl, rfl, rfl, Nat.le_refl _, fun _ _ _ => rfl⟩
theorem BytesAt.take_ {w : World} {B : Nat} {A : Option Addr} {l : List Nat} (h : BytesAt w B A l) (j : Nat) : BytesAt w B A (l.take j) := by
  refine ⟨by rw [bys_length]; omega, fun hn => ?_⟩
  obtain ⟨a, e, hb, hc⟩ := h.2 (by rw [List.length_take] at hn; omega)
  refine ⟨a, e, hb, fun k u hu => hc k u ?_⟩
  simp only [bys, List.getElem?_map, List.getElem?_take] at hu ⊢
  split at hu
  · exact hu
  · cases hu
theorem alloc_grown (w : World) (o : Obj) : w.grownBy (w.alloc o) none := ⟨rfl, rfl, rfl, by simp, fun k hk _ => Below.heap_alloc w o k hk⟩
theorem grown_one {w w' : World} {d : Nat} (h : w.grownBy w' none) : w.grownBy w' (some d) := grown_to h (World.grownBy.refl _ _)
theorem Own.off {w : World} {base d : Nat} {v : Value} {l : List Nat} (h : Own w base v l) (hd : d < base) : v.ownBlock = none ∨ v.ownBlock ≠ some d := by
  cases e : v.ownBlock with
  | none => exact .inl rfl
  | some g =>
    refine .inr fun e2 => ?_
    injection e2 with e2
    subst e2
    have := (World.ownsRow.lt h g e).1
    omega
theorem ret_bool {a b : Bool} (h : a = b) : Ending.returned (.bool a) = .returned (.bool b) := by rw [h]
/-- A literal of bytes. -/
theorem lit_bytes (w : World) (vs : Array Value) (l : List Nat) (hv : vs.toList = bys l) : BytesAt (w.alloc (.cells vs 5)) (w.heap.size + 1) (some ⟨w.heap.size, 0, none⟩) l := by
  refine ⟨by rw [bys_length]; omega, fun _ => ⟨_, rfl, by simp, fun j u hu => ?_⟩⟩
  have hh := heap_alloc_new w (.cells vs 5)
  have hadd : (⟨w.heap.size, 0, none⟩ : Addr).add j = ⟨w.heap.size, j, none⟩ := by unfold Addr.add; split <;> simp_all
  rw [hadd, cell_of_row _ _ j _ 5 (0, 0) hh, ← Array.getElem?_toList, hv]
  exact hu
theorem lit_room (a : Addr) (n : Nat) (h : n ≤ maxLen) : Room (some a) n n := ⟨Nat.le_refl _, h, fun e => by cases e⟩
theorem wpList_append_g {P : Program} (w : World) {ops : Array Oper} {rest : List Oper} {o : Oper} {a : Act} {Q : Exit → Act → World → Prop} (hgd : Region.wanted o (yielded ops a.tmps) = true) (s x : Operand) (t : TypeId)
    (ho : o.op = .call { callee := .builtin .append, args := #[s, x], argTypes := #[t, t] })
    (base : Nat) (e : TypeId) (i : TypeInfo) (z : Value) (size bytes : Nat) (ht : P.underlying t = some (.slice e)) (hi : P.info? e = some i) (hz : i.zero = some z)
    (hsize : i.size = size) (hby : i.bytes = bytes) (hzs : z.cells.size = size) (hsz : 0 < size)
    (v : Value) (n : Nat) (xs : List Value) (hs : a.eval s = v) (hown : w.ownsRow base e size v n xs)
    (B : Nat) (A : Option Addr) (m c : Nat) (news : List Value) (hx : a.eval x = .slice A m c) (hr : Reads w B size A m news) (h1 : ∀ u ∈ news, u.oneCell' = true)
    (h63 : n + m ≤ maxLen) (hbytes : (n + m) * bytes ≤ 140737488355328) (hbase : base ≤ w.heap.size)
    (h : ∀ v' w', w'.ownsRow base e size v' (n + m) (xs ++ news) → w.grownBy w' v.ownBlock → (v'.ownBlock = v.ownBlock ∨ v'.ownBlock = some w.heap.size) → wpList P ops Q rest (a.put o.dst v') w') : wpList P ops Q (o :: rest) a w :=
  BigFrame.wpList_want hgd fun _ hK => wp_append_any w s x t ho base e i z size bytes ht hi hz hsize hby hzs hsz v n xs hs hown B A m c news hx hr h1 h63 hbytes hbase fun v' w' h2 h3 h4 => hK _ _ (h v' w' h2 h3 h4)
theorem row_lt {w : World} {b : Nat} (h : ∃ cur, w.heap[b]? = some (.cells cur 5 (0, 0))) : b < w.heap.size := by
  obtain ⟨cur, hc⟩ := h
  exact (Array.getElem?_eq_some_iff.1 hc).1
theorem bys_int (l : List Nat) : ∀ u ∈ bys l, ∃ z : Int, u = .int .u8 z := by
  intro u hu
  obtain ⟨n, _, rfl⟩ := List.mem_map.1 hu
  exact ⟨_, rfl⟩
end Go.Proofs.Ytdcmaikgkmamjaa
