/- voklaw14.does: an operation of a disk. -/
import Derived.Test.YtelkllhibkefbaaTwin
namespace Go.Proofs.Ytelkllhibkefbaa
open Go.RowKit
set_option linter.unusedVariables false
attribute [local go_sem ↓] Go.wp_at_zero Go.wp_at_succ
/-- An operation: its kind, its number, its bytes. -/
structure Op where
  k : Int
  n : Int
  b : List Nat
/-- What a disk is: its room, how much is synced, its bytes. -/
structure St where
  r : Int
  s : Nat
  l : List Nat
/-- What an operation makes of a disk, and whether it did. -/
def step (S : St) (o : Op) : St × Bool :=
  if o.k = 0 then (if (o.b.length : Int) ≤ S.r - S.l.length then (⟨S.r, S.s, S.l ++ o.b⟩, true) else (S, false))
  else if o.k = 1 then (⟨S.r, S.l.length, S.l⟩, true)
  else if o.k = 2 then (if (o.b.length : Int) ≤ S.r then (⟨S.r, o.b.length, o.b⟩, true) else (S, false))
  else if o.k = 3 then (if 0 ≤ o.n ∧ o.n ≤ S.l.length then (⟨S.r, min S.s o.n.toNat, S.l.take o.n.toNat⟩, true) else (S, false))
  else if o.k = 4 then (⟨S.r, kept S.s S.l.length o.n, S.l.take (kept S.s S.l.length o.n)⟩, true)
  else if o.k = 5 then (if 0 ≤ o.n ∧ o.n ≤ 1073741824 then (⟨o.n, S.s, S.l⟩, true) else (S, false))
  else (S, true)
structure Fine (S : St) (N : Nat) : Prop where
  r0 : 0 ≤ S.r
  r1 : S.r ≤ 1073741824
  s : S.s ≤ S.l.length
  l : S.l.length ≤ N
theorem Fine.more {S : St} {N M : Nat} (h : Fine S N) (hM : N ≤ M) : Fine S M := ⟨h.r0, h.r1, h.s, Nat.le_trans h.l hM⟩
theorem step_fine {S : St} {N : Nat} (h : Fine S N) (o : Op) : Fine (step S o).1 (N + o.b.length) := by
  obtain ⟨r0, r1, hs, hl⟩ := h
  unfold step
  split
  · split
    · exact ⟨r0, r1, by simp only [List.length_append]; omega, by simp only [List.length_append]; omega⟩
    · exact Fine.more (S := S) ⟨r0, r1, hs, hl⟩ (by omega)
  split
  · exact ⟨r0, r1, Nat.le_refl _, by show S.l.length ≤ _; omega⟩
  split
  · split
    · exact ⟨r0, r1, Nat.le_refl _, by show o.b.length ≤ _; omega⟩
    · exact Fine.more (S := S) ⟨r0, r1, hs, hl⟩ (by omega)
  split
  · split
    · refine ⟨r0, r1, ?_, ?_⟩
      · show min S.s o.n.toNat ≤ (S.l.take o.n.toNat).length
        rw [List.length_take]; omega
      · show (S.l.take o.n.toNat).length ≤ _
        rw [List.length_take]; omega
    · exact Fine.more (S := S) ⟨r0, r1, hs, hl⟩ (by omega)
  split
  · have hk := kept_le (keep := o.n) hs
    refine ⟨r0, r1, ?_, ?_⟩
    · show kept S.s S.l.length o.n ≤ (S.l.take _).length
      rw [List.length_take]; omega
    · show (S.l.take _).length ≤ _
      rw [List.length_take]; omega
  split
  · split
    · rename_i h5
      exact ⟨h5.1, h5.2, hs, by show S.l.length ≤ _; omega⟩
    · exact Fine.more (S := S) ⟨r0, r1, hs, hl⟩ (by omega)
  · exact Fine.more (S := S) ⟨r0, r1, hs, hl⟩ (by omega)
/-- The disk at block d is S. -/
def DiskIs (w : World) (d : Nat) (A : Option Addr) (c : Nat) (S : St) : Prop := DiskAt w d S.r S.s A c S.l
section
variable {w w' : World} {d c c' : Nat} {A A' : Option Addr}
theorem grown_one {w w' : World} {d : Nat} (h : w.grownBy w' none) : w.grownBy w' (some d) := grown_to h (World.grownBy.refl _ _)
/-- The file is the old one, or lies in a block that was made since. -/
def Newer (w : World) (A A' : Option Addr) : Prop := A' = A ∨ ∀ ad, A' = some ad → w.heap.size ≤ ad.block
theorem newer_alloc {w : World} {o : Obj} {A A' : Option Addr} (h : ∀ ad, A' = some ad → (w.alloc o).heap.size ≤ ad.block) : Newer w A A' := .inr fun ad e => by have := h ad e; simp at this; omega
set_option maxRecDepth 100000 in
set_option maxHeartbeats 2000000 in
theorem does_new {S : St} (o : Op) {B : Nat} {A2 : Option Addr} {c2 : Nat} (h : DiskIs w d A c S) (hf : Fine S 400000) (hk : BytesAt w B A2 o.b) (hBw : B ≤ w.heap.size) (hr : Room A2 o.b.length c2) (hs : Small o.b) (hl : o.b.length ≤ 400000) (n0 : -9223372036854775808 ≤ o.n) (n1 : o.n ≤ 9223372036854775807) :
    Calls Try.prog 24 #[.pointer (some ⟨d, 0, none⟩), .agg #[.int .i64 o.k, .int .i64 o.n, .slice A2 o.b.length c2]] w fun e w' => ∃ A' c', e = .returned (.bool (step S o).2) ∧ DiskIs w' d A' c' (step S o).1 ∧ w.grownBy w' (some d) ∧ Newer w A A' := by
  obtain ⟨k, n, b⟩ := o
  obtain ⟨r, s, l⟩ := S
  obtain ⟨r0, r1, hs1, hl1⟩ := hf
  simp only at r0 r1 hs1 hl1 hk hr hs hl n0 n1 ⊢
  unfold DiskIs at h ⊢
  simp only at h
  have H1 := h.quiet (alloc_grown w (.cells #[.int .i64 k, .int .i64 n, .slice A2 b.length c2] 47))
  have hk1 : BytesAt (w.alloc (.cells #[.int .i64 k, .int .i64 n, .slice A2 b.length c2] 47)) B A2 b := hk.below ((Below.refl _ _).alloc hBw _)
  have g1 := alloc_grown w (.cells #[.int .i64 k, .int .i64 n, .slice A2 b.length c2] 47)
  have hsz : B ≤ (w.alloc (.cells #[.int .i64 k, .int .i64 n, .slice A2 b.length c2] 47)).heap.size := by simp; omega
  by_cases k0 : k = 0
  · subst k0
    by_cases hfit : (b.length : Int) ≤ r - l.length
    · have e1 : step ⟨r, s, l⟩ ⟨0, n, b⟩ = (⟨r, s, l ++ b⟩, true) := by unfold step; rw [if_pos rfl, if_pos hfit]
      rw [e1]
      clear e1
      have K := append_new H1 hk1 hsz hr hs hl1 hl r0 r1 hfit
      clear H1 hk1 hsz
      go_enter Try.func24, Try.ntmps24
      go_wp2_with fail
      refine K.mono ?_
      rintro e w1 ⟨A1, c1, rfl, D1, g2, F⟩
      have g3 := grown_to g1 g2
      clear K g1 g2
      go_wp2_with fail
      go_ret
      exact ⟨A1, c1, rfl, D1, g3, newer_alloc F⟩
    · have e1 : step ⟨r, s, l⟩ ⟨0, n, b⟩ = (⟨r, s, l⟩, false) := by unfold step; rw [if_pos rfl, if_neg hfit]
      rw [e1]
      clear e1
      have K := append_no (A2 := A2) (c2 := c2) H1 (Nat.le_trans hr.le hr.max) hl1 r0 r1 hfit
      clear H1 hk1 hsz
      go_enter Try.func24, Try.ntmps24
      go_wp2_with fail
      refine K.mono ?_
      rintro e w1 ⟨rfl, D1, g2⟩
      have g3 := grown_one (d := d) (grown_to g1 g2)
      clear K g1 g2
      go_wp2_with fail
      go_ret
      exact ⟨A, c, rfl, D1, g3, .inl rfl⟩
  have q0 : (k == 0) = false := by simpa using k0
  by_cases k1 : k = 1
  · subst k1
    have e1 : step ⟨r, s, l⟩ ⟨1, n, b⟩ = (⟨r, l.length, l⟩, true) := by unfold step; rw [if_neg (by simp), if_pos rfl]
    rw [e1]
    clear e1
    have K := sync_any H1
    clear H1 hk1 hsz
    go_enter Try.func24, Try.ntmps24
    go_wp2_with fail
    refine K.mono ?_
    rintro e w1 ⟨rfl, D1, g2⟩
    have g3 := grown_to g1 g2
    clear K g1 g2
    go_wp2_with fail
    go_ret
    exact ⟨A, c, rfl, D1, g3, .inl rfl⟩
  have q1 : (k == 1) = false := by simpa using k1
  by_cases k2 : k = 2
  · subst k2
    by_cases hfit : (b.length : Int) ≤ r
    · have e1 : step ⟨r, s, l⟩ ⟨2, n, b⟩ = (⟨r, b.length, b⟩, true) := by unfold step; rw [if_neg (by simp), if_neg (by simp), if_pos rfl, if_pos hfit]
      rw [e1]
      clear e1
      have K := swap_new H1 hk1 hr hs (by omega) hfit
      clear H1 hk1 hsz
      go_enter Try.func24, Try.ntmps24
      go_wp2_with fail
      refine K.mono ?_
      rintro e w1 ⟨A1, c1, rfl, D1, g2, F⟩
      have g3 := grown_to g1 g2
      clear K g1 g2
      go_wp2_with fail
      go_ret
      exact ⟨A1, c1, rfl, D1, g3, newer_alloc F⟩
    · have e1 : step ⟨r, s, l⟩ ⟨2, n, b⟩ = (⟨r, s, l⟩, false) := by unfold step; rw [if_neg (by simp), if_neg (by simp), if_pos rfl, if_neg hfit]
      rw [e1]
      clear e1
      have K := swap_no (A2 := A2) (c2 := c2) H1 (Nat.le_trans hr.le hr.max) hfit
      go_enter Try.func24, Try.ntmps24
      go_wp2_with fail
      refine K.mono ?_
      rintro e w1 ⟨rfl, rfl⟩
      clear K
      go_wp2_with fail
      go_ret
      exact ⟨A, c, rfl, H1, grown_one g1, .inl rfl⟩
  have q2 : (k == 2) = false := by simpa using k2
  by_cases k3 : k = 3
  · subst k3
    by_cases hin : 0 ≤ n ∧ n ≤ l.length
    · obtain ⟨m, rfl⟩ := Int.eq_ofNat_of_zero_le hin.1
      have e1 : step ⟨r, s, l⟩ ⟨3, m, b⟩ = (⟨r, min s m, l.take m⟩, true) := by unfold step; rw [if_neg (by simp), if_neg (by simp), if_neg (by simp), if_pos rfl, if_pos hin]; simp
      rw [e1]
      clear e1
      have K := cut_new H1 m (by omega) hl1 (by omega) (by omega)
      clear H1 hk1 hsz
      go_enter Try.func24, Try.ntmps24
      go_wp2_with fail
      refine K.mono ?_
      rintro e w1 ⟨A1, c1, rfl, D1, g2, F⟩
      have g3 := grown_to g1 g2
      clear K g1 g2
      go_wp2_with fail
      go_ret
      exact ⟨A1, c1, rfl, by rw [show ((min s m : Nat) : Int) = min (s : Int) (m : Int) by omega]; exact D1, g3, newer_alloc F⟩
    · have e1 : step ⟨r, s, l⟩ ⟨3, n, b⟩ = (⟨r, s, l⟩, false) := by unfold step; rw [if_neg (by simp), if_neg (by simp), if_neg (by simp), if_pos rfl, if_neg hin]
      rw [e1]
      clear e1
      have K := cut_no H1 n (by omega) hl1
      go_enter Try.func24, Try.ntmps24
      go_wp2_with fail
      refine K.mono ?_
      rintro e w1 ⟨rfl, rfl⟩
      clear K
      go_wp2_with fail
      go_ret
      exact ⟨A, c, rfl, H1, grown_one g1, .inl rfl⟩
  have q3 : (k == 3) = false := by simpa using k3
  by_cases k4 : k = 4
  · subst k4
    have e1 : step ⟨r, s, l⟩ ⟨4, n, b⟩ = (⟨r, kept s l.length n, l.take (kept s l.length n)⟩, true) := by unfold step; rw [if_neg (by simp), if_neg (by simp), if_neg (by simp), if_neg (by simp), if_pos rfl]
    rw [e1]
    clear e1
    have K := crash_new H1 n n0 n1 hs1 hl1
    clear H1 hk1 hsz
    go_enter Try.func24, Try.ntmps24
    go_wp2_with fail
    refine K.mono ?_
    rintro e w1 ⟨A1, c1, rfl, D1, g2, F⟩
    have g3 := grown_to g1 g2
    clear K g1 g2
    go_wp2_with fail
    go_ret
    exact ⟨A1, c1, rfl, D1, g3, newer_alloc F⟩
  have q4 : (k == 4) = false := by simpa using k4
  by_cases k5 : k = 5
  · subst k5
    by_cases hin : 0 ≤ n ∧ n ≤ 1073741824
    · have e1 : step ⟨r, s, l⟩ ⟨5, n, b⟩ = (⟨n, s, l⟩, true) := by unfold step; rw [if_neg (by simp), if_neg (by simp), if_neg (by simp), if_neg (by simp), if_neg (by simp), if_pos rfl, if_pos hin]
      rw [e1]
      clear e1
      have K := resize_yes H1 n hin
      clear H1 hk1 hsz
      go_enter Try.func24, Try.ntmps24
      go_wp2_with fail
      refine K.mono ?_
      rintro e w1 ⟨rfl, D1, g2⟩
      have g3 := grown_to g1 g2
      clear K g1 g2
      go_wp2_with fail
      go_ret
      exact ⟨A, c, rfl, D1, g3, .inl rfl⟩
    · have e1 : step ⟨r, s, l⟩ ⟨5, n, b⟩ = (⟨r, s, l⟩, false) := by unfold step; rw [if_neg (by simp), if_neg (by simp), if_neg (by simp), if_neg (by simp), if_neg (by simp), if_pos rfl, if_neg hin]
      rw [e1]
      clear e1
      have K := resize_no (w := w.alloc (.cells #[.int .i64 5, .int .i64 n, .slice A2 b.length c2] 47)) (d := d) n hin
      go_enter Try.func24, Try.ntmps24
      go_wp2_with fail
      refine K.mono ?_
      rintro e w1 ⟨rfl, rfl⟩
      clear K
      go_wp2_with fail
      go_ret
      exact ⟨A, c, rfl, H1, grown_one g1, .inl rfl⟩
  have q5 : (k == 5) = false := by simpa using k5
  have e1 : step ⟨r, s, l⟩ ⟨k, n, b⟩ = (⟨r, s, l⟩, true) := by unfold step; rw [if_neg k0, if_neg k1, if_neg k2, if_neg k3, if_neg k4, if_neg k5]
  rw [e1]
  clear e1 k0 k1 k2 k3 k4 k5
  go_enter Try.func24, Try.ntmps24
  go_wp2_with fail
  go_ret
  exact ⟨A, c, rfl, H1, grown_one g1, .inl rfl⟩
theorem does_any {S : St} (o : Op) {B : Nat} {A2 : Option Addr} {c2 : Nat} (h : DiskIs w d A c S) (hf : Fine S 400000) (hk : BytesAt w B A2 o.b) (hBw : B ≤ w.heap.size) (hr : Room A2 o.b.length c2) (hs : Small o.b) (hl : o.b.length ≤ 400000) (n0 : -9223372036854775808 ≤ o.n) (n1 : o.n ≤ 9223372036854775807) :
    Calls Try.prog 24 #[.pointer (some ⟨d, 0, none⟩), .agg #[.int .i64 o.k, .int .i64 o.n, .slice A2 o.b.length c2]] w fun e w' => ∃ A' c', e = .returned (.bool (step S o).2) ∧ DiskIs w' d A' c' (step S o).1 ∧ w.grownBy w' (some d) :=
  (does_new o h hf hk hBw hr hs hl n0 n1).mono fun e w' ⟨A', c', h1, h2, h3, _⟩ => ⟨A', c', h1, h2, h3⟩
end
end Go.Proofs.Ytelkllhibkefbaa
