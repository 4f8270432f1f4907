/- List and Copy of the program's box. -/
import Derived.Test.YtegjpfdbfjfolaaTurns
namespace Go.Proofs.Ytegjpfdbfjfolaa
open Go.RowKit

theorem grown_trans {a b c : World} {r : Option Nat} (h : a.grownBy b r) (k : b.grownBy c r) : a.grownBy c r :=
  ⟨k.os.trans h.os, k.tape.trans h.tape, k.output.trans h.output, Nat.le_trans h.size k.size, fun i hi hne => (k.block i (Nat.lt_of_lt_of_le hi h.size) hne).trans (h.block i hi hne)⟩
theorem grown_new {a b c : World} {r : Option Nat} (h : a.grownBy b r) {row : Option Nat} (k : b.grownBy c row) (hr : ∀ g, row = some g → a.heap.size ≤ g) : a.grownBy c r :=
  ⟨k.os.trans h.os, k.tape.trans h.tape, k.output.trans h.output, Nat.le_trans h.size k.size, fun i hi hne => (k.block i (Nat.lt_of_lt_of_le hi h.size) (fun e => by have := hr i e.symm; omega)).trans (h.block i hi hne)⟩
theorem BoxAt.grown {w w' : World} {b c cap : Nat} {l : List Int} (h : BoxAt w b c cap l) {row : Option Nat} (hg : w.grownBy w' row) (hb : row ≠ some b) (hc : row ≠ some c) : BoxAt w' b c cap l :=
  h.keep (hg.block b h.ltb (fun e => hb e.symm)) (hg.block c h.ltc (fun e => hc e.symm))
theorem rot {l : List Int} {j : Nat} (h : j < l.length) : l.drop j ++ l.take j = l[j] :: (l.drop (j + 1) ++ l.take j) := by
  rw [List.drop_eq_getElem_cons h, List.cons_append]
theorem rot_next {l : List Int} {j : Nat} (h : j < l.length) : l.drop (j + 1) ++ l.take j ++ [l[j]] = l.drop (j + 1) ++ l.take (j + 1) := by
  rw [List.append_assoc, ← List.take_succ_eq_append_getElem h]
theorem vals_snoc {l : List Int} {j : Nat} (h : j < l.length) : vals (l.take j) ++ [Value.int .i64 l[j]] = vals (l.take (j + 1)) := by
  rw [List.take_succ_eq_append_getElem h]; simp only [vals, List.map_append, List.map_cons, List.map_nil]
theorem own_len {w : World} {base n m : Nat} {v : Value} {xs : List Value} (h : w.ownsRow base 3 1 v n xs) (e : n = m) : w.ownsRow base 3 1 v m xs := e ▸ h
theorem own_vals {w : World} {base n : Nat} {v : Value} {xs ys : List Value} (h : w.ownsRow base 3 1 v n xs) (e : xs = ys) : w.ownsRow base 3 1 v n ys := e ▸ h
theorem cell_list {w : World} {t : TypeId} {x : Value} : ∀ j u, [x][j]? = some u → (w.alloc (.cells #[x] t)).cell? ((⟨w.heap.size, 0, none⟩ : Addr).add j) = some u := by
  intro j u hu
  have hh := heap_alloc_new w (.cells #[x] t)
  have hadd : (⟨w.heap.size, 0, none⟩ : Addr).add j = ⟨w.heap.size, j, none⟩ := by unfold Addr.add; split <;> simp_all
  rw [hadd, cell_of_row _ _ j _ t (0, 0) hh]
  simpa using hu
theorem new_ne {w : World} {base n c : Nat} {v : Value} {xs : List Value} (h : w.ownsRow base 3 1 v n xs) (hc : c < base) : v.ownBlock ≠ some c := by
  intro e
  have := (h.lt c e).1
  omega
set_option maxRecDepth 100000 in
set_option maxHeartbeats 1000000 in
theorem list_any {w : World} {b c cap : Nat} {l : List Int} (h : BoxAt w b c cap l) (hl : l.length ≤ cap) (hcap : cap ≤ 1000) :
    Calls Try.prog 19 #[.pointer (some ⟨b, 0, none⟩)] w fun e w' => ∃ v, e = .returned v ∧ w'.ownsRow w.heap.size 3 1 v l.length (vals l) ∧ BoxAt w' b c cap l ∧ w.grownBy w' (some c) := by
  obtain ⟨i0, hi, hz0, hz1, hz2⟩ := info_parts int_row
  have hcb := h.ltc
  have hbb := h.ltb
  go_enter Try.func19, Try.ntmps19
  go_wp2_with fail
  refine (len_any h).mono ?_
  rintro e w1 ⟨rfl, rfl⟩
  go_wp2_with fail
  go_loopw [3, 8] (fun v i wr => ∃ j : Nat, j ≤ l.length ∧ i = .int .i64 j ∧ BoxAt wr b c cap (l.drop j ++ l.take j) ∧ wr.ownsRow w.heap.size 3 1 v j (vals (l.take j)) ∧ w.grownBy wr (some c)) (fun _ i _ => l.length - (intOf i).toNat)
  case atStart => exact ⟨0, Nat.zero_le _, rfl, by simpa using h, World.ownsRow_nil _ _ _ _, World.grownBy.refl w _⟩
  case round =>
    obtain ⟨j, hj, rfl, hbox, hown, hg⟩ := hrel
    have hwr := hg.size
    by_cases hlt : j < l.length
    · rw [rot hlt] at hbox
      go_wp2_with fail
      refine (take_yes hbox).mono ?_
      rintro e w2 ⟨rfl, h2, t2⟩
      have hne := new_ne hown hcb
      have hown2 := hown.kept t2.1 (.inr hne)
      have hg2 := grown_trans hg t2.1
      go_wp2_with (at_builtin; refine wpList_append_own _ rfl _ _ 22 rfl w.heap.size 3 i0 (.int .i64 0) 1 8 Try.underlying22 hi hz0 hz1 hz2 rfl (by decide) _ _ _ rfl (hown2.alloc _) ⟨w2.heap.size, 0, none⟩ 1 1 [.int .i64 l[j]] rfl rfl ?c1 ?c2 ?c3 ?c4 ?c5 ?_)
      case c1 => exact cell_list
      case c2 => intro u hu; simp at hu; subst hu; rfl
      case c3 => unfold maxLen; omega
      case c4 => omega
      case c5 => have := hg2.size; simp; omega
      intro v' w3 hown3 hg3 _
      have hg2a := grown_new hg2 (World.grownBy_alloc w2 (.cells #[.int .i64 l[j]] 3) none) (by simp)
      have hg3a := grown_new hg2a hg3 (fun g hgv => (hown.lt g hgv).1)
      have h2a := h2.alloc (.cells #[.int .i64 l[j]] 3)
      have h3 := h2a.grown hg3 (new_ne hown hbb) (new_ne hown hcb)
      rw [vals_snoc hlt] at hown3
      clear hg2a h2a hg3 hown hown2 hg hg2 h2 hne hbox
      have hlen3 : (l.drop (j + 1) ++ l.take j).length < cap := by rw [List.length_append, List.length_drop, List.length_take]; omega
      go_wp2_with fail
      refine (put_yes h3 hlen3 l[j]).mono ?_
      rintro e w4 ⟨rfl, h4, t4⟩
      have hne3 := new_ne hown3 hcb
      have hown4 := hown3.kept t4.1 (.inr hne3)
      have hg4 := grown_trans hg3a t4.1
      rw [rot_next hlt] at h4
      clear hlen3 hne3 hown3 h3 hg3a
      go_wp2_with fail
      go_roundw
      case rel => exact ⟨j + 1, by omega, by go_num, h4, hown4, hg4⟩
      case measure => simp [intOf]; omega
    · obtain rfl : j = l.length := by omega
      go_wp2_with fail
      go_ret
      exact ⟨_, rfl, by simpa using hown, by simpa using hbox, hg⟩
/-- An owned row is a slice; it reads as its list. -/
theorem own_form {w : World} {base : Nat} {v : Value} {l : List Int} (h : w.ownsRow base 3 1 v l.length (vals l)) : ∃ A cp, v = .slice A l.length cp := by
  rcases h.2 with ⟨rfl, hx⟩ | ⟨g, cp, cur, rfl, _⟩
  · have : l = [] := by simpa [vals] using hx
    subst this
    exact ⟨none, 0, rfl⟩
  · exact ⟨_, _, rfl⟩
theorem own_ints {w : World} {base cp : Nat} {A : Option Addr} {l : List Int} (h : w.ownsRow base 3 1 (.slice A l.length cp) l.length (vals l)) : IntsAt w w.heap.size A l := Reads.of_own h
set_option maxRecDepth 100000 in
set_option maxHeartbeats 1000000 in
theorem copy_box {w : World} {b c cap : Nat} {l : List Int} (h : BoxAt w b c cap l) (hl : l.length ≤ cap) (hcap : cap ≤ 1000) :
    Calls Try.prog 17 #[.pointer (some ⟨b, 0, none⟩)] w fun e w' => ∃ bn cn, e = .returned (.pointer (some ⟨bn, 0, none⟩)) ∧ BoxAt w' bn cn cap l ∧ BoxAt w' b c cap l ∧ w.grownBy w' (some c) ∧ w.heap.size ≤ bn ∧ w.heap.size ≤ cn := by
  have hcb := h.ltc
  have hbb := h.ltb
  have hcell := h.cell
  have hmk := mkc cap hcap
  have hca : ∀ ty, (Builtin.cap_ #[51] ty #[.chan (some c)]).run Try.prog w = .ok (.int .i64 (cap : Int)) w := by
    obtain ⟨_, s, r, h2⟩ := h
    exact fun ty => Go.Conc.run_cap_chan (P := Try.prog) 51 ty Try.underlying51 h2
  go_enter Try.func17, Try.ntmps17
  go_wp2_with fail
  have hn := newBox_at w cap
  have hnb := newBox_below w cap
  have hns := newBox_size w cap
  have h1 := h.keep (hnb.block b hbb) (hnb.block c hcb)
  show Calls _ _ _ (newBox w cap) _
  generalize newBox w cap = w1 at hn hnb hns h1 ⊢
  obtain ⟨cn, hcn⟩ : ∃ x, x = w.heap.size := ⟨_, rfl⟩
  obtain ⟨bn, hbn⟩ : ∃ x, x = w.heap.size + 1 := ⟨_, rfl⟩
  rw [← hbn] at hn ⊢
  rw [← hcn] at hn ⊢
  have HS := Lib.hid hns
  have HN := Lib.hid hbn
  have g0 : w.grownBy w1 (some c) := ⟨hnb.os, hnb.tape, hnb.output, hnb.size, fun i hi _ => hnb.block i hi⟩
  have q1 : c ≠ cn := by omega
  have q2 : c ≠ bn := by omega
  have q3 : b ≠ cn := by omega
  have q4 : w.heap.size ≤ cn := by omega
  have q5 : bn < w1.heap.size := by omega
  have q6 : cn < w1.heap.size := by omega
  clear hns hcn hbn hnb hca hmk hcell h
  refine (list_any h1 hl hcap).mono ?_
  rintro e w2 ⟨v, rfl, hown, h2, g2⟩
  obtain ⟨A, cp, rfl⟩ := own_form hown
  have hn2 := hn.grown g2 (by simpa using q2) (by simpa using q1)
  have g3 := grown_trans g0 g2
  have hw2 := g2.size
  clear hn h1 g0 g2
  go_wp2_with fail
  go_loopw [17] (fun i wr => ∃ j : Nat, j ≤ l.length ∧ i = .int .i64 j ∧ BoxAt wr bn cn cap (l.take j) ∧ BoxAt wr b c cap l ∧ wr.ownsRow w1.heap.size 3 1 (.slice A l.length cp) l.length (vals l) ∧ w.grownBy wr (some c)) (fun i _ => l.length - (intOf i).toNat)
  case atStart => exact ⟨0, Nat.zero_le _, rfl, hn2, h2, hown, g3⟩
  case round =>
    clear hn2 h2 hown g3
    obtain ⟨j, hj, rfl, hnew, hold, hown, hg⟩ := hrel
    by_cases hlt : j < l.length
    · obtain ⟨ad, rfl, hc0⟩ := (own_ints hown).get hlt
      have hlen1 : (l.take j).length < cap := by rw [List.length_take]; omega
      go_wp2_with fail
      refine (put_yes hnew hlen1 l[j]).mono ?_
      rintro e w3 ⟨rfl, h3, t3⟩
      rw [← List.take_succ_eq_append_getElem hlt] at h3
      have hold3 := hold.turned t3 q3 q1
      have hown3 := hown.kept t3.1 (.inr (new_ne hown q6))
      have hg3 := grown_new hg t3.1 (by intro g e; injection e with e; omega)
      go_wp2_with fail
      go_roundw
      case rel => exact ⟨j + 1, by omega, by go_num, h3, hold3, hown3, hg3⟩
      case measure => simp [intOf]; omega
    · obtain rfl : j = l.length := by omega
      go_wp2_with fail
      go_ret
      exact ⟨bn, cn, rfl, by simpa using hnew, hold, hg, by have := HN.out; omega, q4⟩
end Go.Proofs.Ytegjpfdbfjfolaa
