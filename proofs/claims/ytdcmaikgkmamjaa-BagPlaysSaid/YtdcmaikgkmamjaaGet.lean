/- bag.Get. -/
import Derived.Test.YtdcmaikgkmamjaaPut
namespace Go.Proofs.Ytdcmaikgkmamjaa
open Go.RowKit
set_option linter.unusedVariables false
attribute [local go_sem ↓] Go.wp_at_zero Go.wp_at_succ
section
variable {T T' base : Nat} {w w' : World} {b c : Nat} {r lost r' lost' : Int} {v v' : Value} {xs ys : List Value} {L K : List (List Nat)}
/-- A row of a bag. -/
theorem BagAt.get (h : BagAt T base w b r lost v xs L) {i : Nat} (hi : i < L.length) : ∃ g c A' c', v = .slice (some ⟨g, 0, none⟩) L.length c ∧ L.length ≤ c ∧ c ≤ maxLen ∧ w.cell? ⟨g, i, none⟩ = some (.slice A' L[i].length c') ∧ BytesAt w w.heap.size A' L[i] ∧ Room A' L[i].length c' ∧ Small L[i] := by
  have ho := h.own
  rcases h.own.2 with ⟨_, hn⟩ | ⟨g, c, cur, rfl, hb, hc, hnc, hcm, _⟩
  · omega
  · obtain ⟨u, hu, A', c', e, h1, h2, h3, h4⟩ := h.rows.get hi
    refine ⟨g, c, A', c', rfl, hnc, hcm, ?_, h1, h3, h4⟩
    rw [World.ownsRow.cellAt ho i (by omega), hu, e]
set_option maxRecDepth 100000 in
theorem get_yes (h : BagAt 49 base w b r lost v xs L) {i : Nat} (hi : i < L.length) (hl : L.length ≤ 1000000) (hli : L[i].length ≤ 1000000) :
    Calls Try.prog 14 #[.pointer (some ⟨b, 0, none⟩), .int .i64 i] w fun e w' => ∃ A' c', e = .returned (.tuple #[.slice A' L[i].length c', .bool true]) ∧ Own w' w.heap.size (.slice A' L[i].length c') L[i] ∧ Below w.heap.size w w' := by
  have c2 := h.cell2
  obtain ⟨g, c, A1, c1, rfl, hnc, hcm, hcell, hby, hrm, hsm⟩ := h.get hi
  unfold maxLen at hcm
  have i0 : (0 : Int) ≤ (i : Int) := by omega
  have i1 : (i : Int) < (L.length : Int) := by omega
  go_enter Try.func14, Try.ntmps14
  go_wp2_with fail
  refine (clone_all A1 c1 _ L[i] w hby hrm hli).mono ?_
  rintro e w1 ⟨A2, c2, rfl, O2, b2⟩
  go_wp2_with fail
  go_ret2
  exact ⟨A2, c2, rfl, O2, b2⟩
set_option maxRecDepth 100000 in
theorem get_no (h : BagAt 49 base w b r lost v xs L) {i : Int} (hi : i < 0 ∨ (L.length : Int) ≤ i) (hl : L.length ≤ 1000000) :
    Calls Try.prog 14 #[.pointer (some ⟨b, 0, none⟩), .int .i64 i] w fun e w' => e = .returned (.tuple #[.slice none 0 0, .bool false]) ∧ w = w' := by
  have c2 := h.cell2
  obtain ⟨A', c', rfl⟩ := header_form h.own
  rcases (show i < 0 ∨ (¬ i < 0 ∧ (L.length : Int) ≤ i) by omega) with q | ⟨q, q2⟩
  all_goals
    clear hi
    go_enter Try.func14, Try.ntmps14
    go_wp2_with fail
    go_ret2
    exact ⟨rfl, rfl⟩
/-- An append that has room. -/
theorem step_append_fits {P : Program} (w : World) {ops : Array Oper} {o : Oper} {a : Act} {K : Act → World → Prop} {Q : Exit → Act → World → Prop} {E : Prop} (hgd : o.guard = none) (s x : Operand) (t : TypeId)
    (ho : o.op = .call { callee := .builtin .append, args := #[s, x], argTypes := #[t, t] })
    (base : Nat) (e : TypeId) (i : TypeInfo) (size : Nat) (ht : P.underlying t = some (.slice e)) (hi : P.info? e = some i) (hsize : i.size = size)
    (g n cap : Nat) (xs : List Value) (hs : a.eval s = .slice (some ⟨g, 0, none⟩) n cap) (hown : w.ownsRow base e size (.slice (some ⟨g, 0, none⟩) n cap) n xs)
    (ad : Addr) (m c : Nat) (news : List Value) (hx : a.eval x = .slice (some ad) m c) (hl : news.length = m * size) (hnews : ∀ j u, news[j]? = some u → w.cell? (ad.add j) = some u) (h1 : ∀ u ∈ news, u.oneCell' = true) (hroom : n + m ≤ cap)
    (h : ∀ w', w'.ownsRow base e size (.slice (some ⟨g, 0, none⟩) (n + m) cap) (n + m) (xs ++ news) → w.grownBy w' (some g) → K (a.put o.dst (.slice (some ⟨g, 0, none⟩) (n + m) cap)) w') :
    if Region.wanted o (yielded ops a.tmps) = true then Oper.wp P o a w K Q else E := by
  have hw : Region.wanted o (yielded ops a.tmps) = true := by simp [Region.wanted, hgd]
  rw [if_pos hw]
  obtain ⟨w', hrun, r1, r2⟩ := run_append_fits (P := P) w base t o.type e i size ht hi hsize g n cap xs hown ad m c news hl hnews h1 hroom
  unfold Oper.wp
  simp [execOp, ho, resolve, invoke, builtin, hs, hx, hrun, Result.andThen]
  exact h w' r1 r2
theorem own_take {g n c : Nat} {xs : List Value} (h : w.ownsRow base 30 1 (.slice (some ⟨g, 0, none⟩) n c) n xs) {i : Nat} (hi : i ≤ n) : w.ownsRow base 30 1 (.slice (some ⟨g, 0, none⟩) i c) i (xs.take i) := by
  rcases h.2 with ⟨e, _⟩ | ⟨g', cap, cur, e, hb, hc, h1, h2, h3, h4⟩
  · cases e
  · injection e with e1 _ e3
    injection e1 with e1
    injection e1 with e1
    subst e1 e3
    refine ⟨by rw [List.length_take]; have := h.1; omega, .inr ⟨g, c, cur, rfl, hb, hc, by omega, h2, h3, ?_⟩⟩
    rw [← h4, List.take_take, Nat.mul_one, Nat.mul_one, Nat.min_eq_left hi]
theorem own_cells {g n c : Nat} {xs : List Value} (h : w.ownsRow base 30 1 (.slice (some ⟨g, 0, none⟩) n c) n xs) (i : Nat) : ∀ j u, (xs.drop i)[j]? = some u → w.cell? ⟨g, i + j, none⟩ = some u := by
  intro j u hu
  rw [List.getElem?_drop] at hu
  have := (List.getElem?_eq_some_iff.1 hu).1
  rw [World.ownsRow.cellAt h (i + j) (by have := h.1; omega), hu]
theorem zero30 (w : World) : (zeroValue 30).run Try.prog w = .ok (.slice none 0 0) w := by kernel_rfl
theorem setCells_one (w : World) (g j : Nat) (u : Value) : w.setCells g j [u] = w.setCell ⟨g, j, none⟩ u := by simp [World.setCells]
end
end Go.Proofs.Ytdcmaikgkmamjaa
