/- The document's disk: want (written by mkref.py). -/
import Derived.Test.YtelkllhibkefbaaRCrash
namespace Go.Proofs.Ytelkllhibkefbaa.Ref
open Go.RowKit
set_option linter.unusedVariables false
attribute [local go_sem ↓] Go.wp_at_zero Go.wp_at_succ
/-- The disk at block d is S. -/
def DiskIs (w : World) (d : Nat) (A : Option Addr) (c : Nat) (S : St) : Prop := DiskAt w d S.r S.s A c S.l
section
variable {w w' : World} {d c c' : Nat} {A A' : Option Addr}
set_option maxRecDepth 100000 in
set_option maxHeartbeats 2000000 in
theorem want_new {S : St} (o : Op) {B : Nat} {A2 : Option Addr} {c2 : Nat} (h : DiskIs w d A c S) (hf : Fine S 400000) (hk : BytesAt w B A2 o.b) (hBw : B ≤ w.heap.size) (hr : Room A2 o.b.length c2) (hs : Small o.b) (hl : o.b.length ≤ 400000) (n0 : -9223372036854775808 ≤ o.n) (n1 : o.n ≤ 9223372036854775807) :
    Calls Try.prog 25 #[.pointer (some ⟨d, 0, none⟩), .agg #[.int .i64 o.k, .int .i64 o.n, .slice A2 o.b.length c2]] w fun e w' => ∃ A' c', e = .returned (.bool (step S o).2) ∧ DiskIs w' d A' c' (step S o).1 ∧ w.grownBy w' (some d) ∧ Newer w A A' := by
  obtain ⟨k, n, b⟩ := o
  obtain ⟨r, s, l⟩ := S
  obtain ⟨r0, r1, hs1, hl1⟩ := hf
  simp only at r0 r1 hs1 hl1 hk hr hs hl n0 n1 ⊢
  unfold DiskIs at h ⊢
  simp only at h
  have H1 := h.quiet (alloc_grown w (.cells #[.int .i64 k, .int .i64 n, .slice A2 b.length c2] 47))
  have hk1 : BytesAt (w.alloc (.cells #[.int .i64 k, .int .i64 n, .slice A2 b.length c2] 47)) B A2 b := hk.below ((Below.refl _ _).alloc hBw _)
  have g1 := alloc_grown w (.cells #[.int .i64 k, .int .i64 n, .slice A2 b.length c2] 47)
  have hsz : B ≤ (w.alloc (.cells #[.int .i64 k, .int .i64 n, .slice A2 b.length c2] 47)).heap.size := by simp; omega
  by_cases k0 : k = 0
  · subst k0
    by_cases hfit : (b.length : Int) ≤ r - l.length
    · have e1 : step ⟨r, s, l⟩ ⟨0, n, b⟩ = (⟨r, s, l ++ b⟩, true) := by unfold step; rw [if_pos rfl, if_pos hfit]
      rw [e1]
      clear e1
      have K := append_new H1 hk1 hsz hr hs hl1 hl r0 r1 hfit
      clear H1 hk1 hsz
      go_enter Try.func25, Try.ntmps25
      go_wp2_with fail
      refine K.mono ?_
      rintro e w1 ⟨A1, c1, rfl, D1, g2, F⟩
      have g3 := grown_to g1 g2
      clear K g1 g2
      go_wp2_with fail
      go_ret
      exact ⟨A1, c1, rfl, D1, g3, newer_alloc F⟩
    · have e1 : step ⟨r, s, l⟩ ⟨0, n, b⟩ = (⟨r, s, l⟩, false) := by unfold step; rw [if_pos rfl, if_neg hfit]
      rw [e1]
      clear e1
      have K := append_no (A2 := A2) (c2 := c2) H1 (Nat.le_trans hr.le hr.max) hl1 r0 r1 hfit
      clear H1 hk1 hsz
      go_enter Try.func25, Try.ntmps25
      go_wp2_with fail
      refine K.mono ?_
      rintro e w1 ⟨rfl, D1, g2⟩
      have g3 := grown_one (d := d) (grown_to g1 g2)
      clear K g1 g2
      go_wp2_with fail
      go_ret
      exact ⟨A, c, rfl, D1, g3, .inl rfl⟩
  have q0 : (k == 0) = false := by simpa using k0
  by_cases k1 : k = 1
  · subst k1
    have e1 : step ⟨r, s, l⟩ ⟨1, n, b⟩ = (⟨r, l.length, l⟩, true) := by unfold step; rw [if_neg (by simp), if_pos rfl]
    rw [e1]
    clear e1
    have K := sync_any H1
    clear H1 hk1 hsz
    go_enter Try.func25, Try.ntmps25
    go_wp2_with fail
    refine K.mono ?_
    rintro e w1 ⟨rfl, D1, g2⟩
    have g3 := grown_to g1 g2
    clear K g1 g2
    go_wp2_with fail
    go_ret
    exact ⟨A, c, rfl, D1, g3, .inl rfl⟩
  have q1 : (k == 1) = false := by simpa using k1
  by_cases k2 : k = 2
  · subst k2
    by_cases hfit : (b.length : Int) ≤ r
    · have e1 : step ⟨r, s, l⟩ ⟨2, n, b⟩ = (⟨r, b.length, b⟩, true) := by unfold step; rw [if_neg (by simp), if_neg (by simp), if_pos rfl, if_pos hfit]
      rw [e1]
      clear e1
      have K := swap_new H1 hk1 hr hs (by omega) hfit
      clear H1 hk1 hsz
      go_enter Try.func25, Try.ntmps25
      go_wp2_with fail
      refine K.mono ?_
      rintro e w1 ⟨A1, c1, rfl, D1, g2, F⟩
      have g3 := grown_to g1 g2
      clear K g1 g2
      go_wp2_with fail
      go_ret
      exact ⟨A1, c1, rfl, D1, g3, newer_alloc F⟩
    · have e1 : step ⟨r, s, l⟩ ⟨2, n, b⟩ = (⟨r, s, l⟩, false) := by unfold step; rw [if_neg (by simp), if_neg (by simp), if_pos rfl, if_neg hfit]
      rw [e1]
      clear e1
      have K := swap_no (A2 := A2) (c2 := c2) H1 (Nat.le_trans hr.le hr.max) hfit
      go_enter Try.func25, Try.ntmps25
      go_wp2_with fail
      refine K.mono ?_
      rintro e w1 ⟨rfl, rfl⟩
      clear K
      go_wp2_with fail
      go_ret
      exact ⟨A, c, rfl, H1, grown_one g1, .inl rfl⟩
  have q2 : (k == 2) = false := by simpa using k2
  by_cases k3 : k = 3
  · subst k3
    by_cases hin : 0 ≤ n ∧ n ≤ l.length
    · obtain ⟨m, rfl⟩ := Int.eq_ofNat_of_zero_le hin.1
      have e1 : step ⟨r, s, l⟩ ⟨3, m, b⟩ = (⟨r, min s m, l.take m⟩, true) := by unfold step; rw [if_neg (by simp), if_neg (by simp), if_neg (by simp), if_pos rfl, if_pos hin]; simp
      rw [e1]
      clear e1
      have K := cut_new H1 m (by omega) hl1 (by omega) (by omega)
      clear H1 hk1 hsz
      go_enter Try.func25, Try.ntmps25
      go_wp2_with fail
      refine K.mono ?_
      rintro e w1 ⟨A1, c1, rfl, D1, g2, F⟩
      have g3 := grown_to g1 g2
      clear K g1 g2
      go_wp2_with fail
      go_ret
      exact ⟨A1, c1, rfl, by rw [show ((min s m : Nat) : Int) = min (s : Int) (m : Int) by omega]; exact D1, g3, newer_alloc F⟩
    · have e1 : step ⟨r, s, l⟩ ⟨3, n, b⟩ = (⟨r, s, l⟩, false) := by unfold step; rw [if_neg (by simp), if_neg (by simp), if_neg (by simp), if_pos rfl, if_neg hin]
      rw [e1]
      clear e1
      have K := cut_no H1 n (by omega) hl1
      go_enter Try.func25, Try.ntmps25
      go_wp2_with fail
      refine K.mono ?_
      rintro e w1 ⟨rfl, rfl⟩
      clear K
      go_wp2_with fail
      go_ret
      exact ⟨A, c, rfl, H1, grown_one g1, .inl rfl⟩
  have q3 : (k == 3) = false := by simpa using k3
  by_cases k4 : k = 4
  · subst k4
    have e1 : step ⟨r, s, l⟩ ⟨4, n, b⟩ = (⟨r, kept s l.length n, l.take (kept s l.length n)⟩, true) := by unfold step; rw [if_neg (by simp), if_neg (by simp), if_neg (by simp), if_neg (by simp), if_pos rfl]
    rw [e1]
    clear e1
    have K := crash_new H1 n n0 n1 hs1 hl1
    clear H1 hk1 hsz
    go_enter Try.func25, Try.ntmps25
    go_wp2_with fail
    refine K.mono ?_
    rintro e w1 ⟨A1, c1, rfl, D1, g2, F⟩
    have g3 := grown_to g1 g2
    clear K g1 g2
    go_wp2_with fail
    go_ret
    exact ⟨A1, c1, rfl, D1, g3, newer_alloc F⟩
  have q4 : (k == 4) = false := by simpa using k4
  by_cases k5 : k = 5
  · subst k5
    by_cases hin : 0 ≤ n ∧ n ≤ 1073741824
    · have e1 : step ⟨r, s, l⟩ ⟨5, n, b⟩ = (⟨n, s, l⟩, true) := by unfold step; rw [if_neg (by simp), if_neg (by simp), if_neg (by simp), if_neg (by simp), if_neg (by simp), if_pos rfl, if_pos hin]
      rw [e1]
      clear e1
      have K := resize_yes H1 n hin
      clear H1 hk1 hsz
      go_enter Try.func25, Try.ntmps25
      go_wp2_with fail
      refine K.mono ?_
      rintro e w1 ⟨rfl, D1, g2⟩
      have g3 := grown_to g1 g2
      clear K g1 g2
      go_wp2_with fail
      go_ret
      exact ⟨A, c, rfl, D1, g3, .inl rfl⟩
    · have e1 : step ⟨r, s, l⟩ ⟨5, n, b⟩ = (⟨r, s, l⟩, false) := by unfold step; rw [if_neg (by simp), if_neg (by simp), if_neg (by simp), if_neg (by simp), if_neg (by simp), if_pos rfl, if_neg hin]
      rw [e1]
      clear e1
      have K := resize_no (w := w.alloc (.cells #[.int .i64 5, .int .i64 n, .slice A2 b.length c2] 47)) (d := d) n hin
      go_enter Try.func25, Try.ntmps25
      go_wp2_with fail
      refine K.mono ?_
      rintro e w1 ⟨rfl, rfl⟩
      clear K
      go_wp2_with fail
      go_ret
      exact ⟨A, c, rfl, H1, grown_one g1, .inl rfl⟩
  have q5 : (k == 5) = false := by simpa using k5
  have e1 : step ⟨r, s, l⟩ ⟨k, n, b⟩ = (⟨r, s, l⟩, true) := by unfold step; rw [if_neg k0, if_neg k1, if_neg k2, if_neg k3, if_neg k4, if_neg k5]
  rw [e1]
  clear e1 k0 k1 k2 k3 k4 k5
  go_enter Try.func25, Try.ntmps25
  go_wp2_with fail
  go_ret
  exact ⟨A, c, rfl, H1, grown_one g1, .inl rfl⟩
theorem want_any {S : St} (o : Op) {B : Nat} {A2 : Option Addr} {c2 : Nat} (h : DiskIs w d A c S) (hf : Fine S 400000) (hk : BytesAt w B A2 o.b) (hBw : B ≤ w.heap.size) (hr : Room A2 o.b.length c2) (hs : Small o.b) (hl : o.b.length ≤ 400000) (n0 : -9223372036854775808 ≤ o.n) (n1 : o.n ≤ 9223372036854775807) :
    Calls Try.prog 25 #[.pointer (some ⟨d, 0, none⟩), .agg #[.int .i64 o.k, .int .i64 o.n, .slice A2 o.b.length c2]] w fun e w' => ∃ A' c', e = .returned (.bool (step S o).2) ∧ DiskIs w' d A' c' (step S o).1 ∧ w.grownBy w' (some d) :=
  (want_new o h hf hk hBw hr hs hl n0 n1).mono fun e w' ⟨A', c', h1, h2, h3, _⟩ => ⟨A', c', h1, h2, h3⟩
end
end Go.Proofs.Ytelkllhibkefbaa.Ref
