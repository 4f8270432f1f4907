/- The program's box as a list: what New, Put, Take and Len do to it. -/
import Derived.Test.YtegjpfdbfjfolaaChan
import Derived.Conc.LoneSelectN
import Derived.WalkKit
import Derived.Outline
import Derived.Lib.Hide
namespace Go.Proofs.Ytegjpfdbfjfolaa
open Go.RowKit
open Go.Conc (heap_setChan size_setChan run_len_chan run_cap_chan run_makeChan)

/-- A list of numbers as values. -/
def vals (l : List Int) : List Value := l.map (Value.int .i64)
theorem vals_length (l : List Int) : (vals l).length = l.length := by simp [vals]
/-- Block b is a box whose channel is block c: so many places, these numbers, the eldest first. -/
def BoxAt (w : World) (b c cap : Nat) (l : List Int) : Prop :=
  w.heap[b]? = some (.cells #[.chan (some c)] 53 (0, 0)) ∧ ∃ s r, w.heap[c]? = some (.chan cap (vals l).toArray false s r false)
/-- Nothing but block c has turned; nothing is new. -/
def Turned (c : Nat) (w w' : World) : Prop := w.grownBy w' (some c) ∧ w'.heap.size = w.heap.size

section
variable {w w' : World} {b c cap : Nat} {l : List Int}
theorem BoxAt.ne_ (h : BoxAt w b c cap l) : b ≠ c := by
  obtain ⟨h1, s, r, h2⟩ := h
  rintro rfl
  rw [h1] at h2
  cases h2
theorem BoxAt.ltb (h : BoxAt w b c cap l) : b < w.heap.size := by
  rcases Nat.lt_or_ge b w.heap.size with hlt | hge
  · exact hlt
  · have := h.1; rw [Array.getElem?_eq_none hge] at this; cases this
theorem BoxAt.ltc (h : BoxAt w b c cap l) : c < w.heap.size := by
  rcases Nat.lt_or_ge c w.heap.size with hlt | hge
  · exact hlt
  · obtain ⟨_, s, r, h2⟩ := h
    rw [Array.getElem?_eq_none hge] at h2; cases h2
theorem BoxAt.cell (h : BoxAt w b c cap l) : w.cell? ⟨b, 0, none⟩ = some (.chan (some c)) := by
  have := cell_of_row w b 0 _ 53 (0, 0) h.1
  simpa using this
theorem BoxAt.keep (h : BoxAt w b c cap l) (hb : w'.heap[b]? = w.heap[b]?) (hc : w'.heap[c]? = w.heap[c]?) : BoxAt w' b c cap l := by
  obtain ⟨h1, s, r, h2⟩ := h
  exact ⟨hb.trans h1, s, r, hc.trans h2⟩
theorem setChan_grown (w : World) (c cap : Nat) (buf : Array Value) (cl : Bool) (s r : Nat) (tm : Bool) : w.grownBy (w.setChan c cap buf cl s r tm) (some c) :=
  ⟨rfl, rfl, rfl, by simp [World.setChan], fun k _ hne => by
    simp only [World.setChan]
    rw [Array.getElem?_setIfInBounds_ne (fun e => hne (by rw [e]))]⟩
theorem BoxAt.set_ (h : BoxAt w b c cap l) (k : List Int) (s r : Nat) : BoxAt (w.setChan c cap (vals k).toArray false s r false) b c cap k :=
  ⟨((setChan_grown w c cap _ false s r false).block b h.ltb (by simpa using h.ne_)).trans h.1, s, r, heap_setChan w c cap _ false s r false h.ltc⟩
theorem setChan_turned (w : World) (c cap : Nat) (buf : Array Value) (cl : Bool) (s r : Nat) (tm : Bool) : Turned c w (w.setChan c cap buf cl s r tm) := ⟨setChan_grown w c cap buf cl s r tm, size_setChan _ _ _ _ _ _ _ _⟩

theorem put_yes (h : BoxAt w b c cap l) (hr : l.length < cap) (n : Int) :
    Calls Try.prog 11 #[.pointer (some ⟨b, 0, none⟩), .int .i64 n] w fun e w' => e = .returned (.int .i64 0) ∧ BoxAt w' b c cap (l ++ [n]) ∧ Turned c w w' := by
  have h' := h
  obtain ⟨h1, s, r, h2⟩ := h'
  refine (put_room b c n cap s r _ w h.cell h2 (by simpa [vals] using hr)).mono fun e w' ⟨he, hw⟩ => ?_
  have e1 : (vals l).toArray.push (.int .i64 n) = (vals (l ++ [n])).toArray := by simp [vals]
  rw [e1] at hw
  subst hw
  exact ⟨he, h.set_ _ _ _, setChan_turned _ _ _ _ _ _ _ _⟩
theorem put_no (h : BoxAt w b c cap l) (hr : cap ≤ l.length) (n : Int) :
    Calls Try.prog 11 #[.pointer (some ⟨b, 0, none⟩), .int .i64 n] w fun e w' => e = .returned (.int .i64 9) ∧ w = w' := by
  have h' := h
  obtain ⟨h1, s, r, h2⟩ := h'
  exact (put_full b c n cap s r _ w h.cell h2 (by simpa [vals] using hr)).mono fun e w' ⟨he, hw⟩ => ⟨he, hw.symm⟩
theorem take_yes {n : Int} (h : BoxAt w b c cap (n :: l)) :
    Calls Try.prog 13 #[.pointer (some ⟨b, 0, none⟩)] w fun e w' => e = .returned (.tuple #[.int .i64 n, .bool true]) ∧ BoxAt w' b c cap l ∧ Turned c w w' := by
  have h' := h
  obtain ⟨h1, s, r, h2⟩ := h'
  refine (take_some b c cap s r (.int .i64 n) (vals l) w h.cell h2).mono fun e w' ⟨he, hw⟩ => ?_
  subst hw
  exact ⟨he, h.set_ _ _ _, setChan_turned _ _ _ _ _ _ _ _⟩
theorem take_no (h : BoxAt w b c cap []) :
    Calls Try.prog 13 #[.pointer (some ⟨b, 0, none⟩)] w fun e w' => e = .returned (.tuple #[.int .i64 0, .bool false]) ∧ w = w' := by
  have h' := h
  obtain ⟨h1, s, r, h2⟩ := h'
  exact (take_none b c cap s r w h.cell h2).mono fun e w' ⟨he, hw⟩ => ⟨he, hw.symm⟩
theorem len_any (h : BoxAt w b c cap l) : Calls Try.prog 12 #[.pointer (some ⟨b, 0, none⟩)] w fun e w' => e = .returned (.int .i64 l.length) ∧ w = w' := by
  have hcell := h.cell
  obtain ⟨h1, s, r, h2⟩ := h
  have hlen := fun ty => run_len_chan (P := Try.prog) 51 ty Try.underlying51 h2
  go_enter Try.func12, Try.ntmps12
  go_wp2
  go_ret
  simp [vals]
end
/-- What New makes: a channel, and a box that holds it. -/
def newBox (w : World) (n : Nat) : World := (w.alloc (.chan n #[] false 0 0 false)).alloc (.cells #[.chan (some w.heap.size)] 53)
theorem newBox_at (w : World) (n : Nat) : BoxAt (newBox w n) (w.heap.size + 1) w.heap.size n [] := by
  have h0 := heap_alloc_new w (.chan n #[] false 0 0 false)
  have h1 := heap_alloc_new (w.alloc (.chan n #[] false 0 0 false)) (.cells #[.chan (some w.heap.size)] 53)
  refine ⟨?_, 0, 0, ?_⟩
  · unfold newBox; simpa only [World.size_alloc] using h1
  · unfold newBox
    rw [Below.heap_alloc _ _ _ (by simp)]
    exact h0
theorem newBox_below (w : World) (n : Nat) : Below w.heap.size w (newBox w n) := ((Below.refl _ _).alloc (Nat.le_refl _) _).alloc (by simp) _
theorem newBox_size (w : World) (n : Nat) : (newBox w n).heap.size = w.heap.size + 2 := by simp [newBox]
theorem int_info : ∃ i, Try.prog.info? 3 = some i ∧ i.bytes = 8 := by
  have h : (Try.prog.info? 3).map (·.bytes) = some 8 := by kernel_rfl
  obtain ⟨i, hi, hb⟩ := Option.map_eq_some_iff.1 h
  exact ⟨i, hi, hb⟩
theorem mkc (n : Nat) (hn : n ≤ 1000) (w : World) : (Instr.makeChan 51 (.int .i64 (n : Int))).run Try.prog w = .ok (.chan (some w.heap.size)) (w.alloc (.chan n #[] false 0 0 false)) := by
  obtain ⟨i, hi, hb⟩ := int_info
  exact run_makeChan (P := Try.prog) (w := w) Try.underlying51 hi .i64 n (by omega) (by rw [hb]; omega)
theorem new_yes (n : Nat) (h1 : 1 ≤ n) (h2 : n ≤ 1000) (w : World) :
    Calls Try.prog 10 #[.int .i64 (n : Int)] w fun e w' => e = .returned (.tuple #[.pointer (some ⟨w.heap.size + 1, 0, none⟩), .int .i64 0]) ∧ newBox w n = w' := by
  have hmk := mkc n h2
  go_enter Try.func10, Try.ntmps10
  go_wp2
  go_ret2
  exact ⟨rfl, rfl⟩
theorem new_no (n : Int) (h : n < 1 ∨ 1000 < n) (w : World) :
    Calls Try.prog 10 #[.int .i64 n] w fun e w' => e = .returned (.tuple #[.pointer none, .int .i64 1]) ∧ w = w' := by
  rcases h with h | h
  · go_enter Try.func10, Try.ntmps10
    go_wp2
    go_ret2
    exact ⟨rfl, rfl⟩
  · have h' : ¬ n < 1 := by omega
    go_enter Try.func10, Try.ntmps10
    go_wp2
    go_ret2
    exact ⟨rfl, rfl⟩
end Go.Proofs.Ytegjpfdbfjfolaa
