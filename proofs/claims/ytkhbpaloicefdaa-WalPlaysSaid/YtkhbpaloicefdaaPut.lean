/- frame.Put: a record. -/
import Derived.Test.YtkhbpaloicefdaaCopy
namespace Go.Proofs.Ytkhbpaloicefdaa
open Go.RowKit
def hd (n : Nat) : List Nat := [n / 256, n % 256]
def be4 (s : Nat) : List Nat := [s / 16777216, s / 65536 % 256, s / 256 % 256, s % 256]
/-- A record. -/
def recd (p : List Nat) : List Nat := hd p.length ++ be4 (Crc.crc (hd p.length ++ p)) ++ p
theorem hd_small {n : Nat} (h : n < 65536) : Small (hd n) := by
  intro x hx
  simp [hd] at hx
  omega
theorem be4_small {s : Nat} (h : s < 4294967296) : Small (be4 s) := by
  intro x hx
  simp [be4] at hx
  omega
theorem recd_small {p : List Nat} (h : Small p) (hl : p.length < 65536) : Small (recd p) :=
  ((hd_small hl).append (be4_small (Crc.crc_lt ((hd_small hl).append h)))).append h
theorem recd_length (p : List Nat) : (recd p).length = p.length + 6 := by simp [recd, hd, be4]
theorem hd_own (w : World) (n : Nat) : Own (w.alloc (.cells #[.int .u8 ((n : Int) / 256), .int .u8 ((n : Int) % 256)] 5)) w.heap.size (.slice (some ⟨w.heap.size, 0, none⟩) 2 2) (hd n) := by
  have h := World.ownsRow_lit w (base := w.heap.size) (e := 5) (size := 1) #[.int .u8 ((n : Int) / 256), .int .u8 ((n : Int) % 256)] 2 (Nat.le_refl _) (by simp [maxLen]) rfl
  have e : bys (hd n) = [.int .u8 ((n : Int) / 256), .int .u8 ((n : Int) % 256)] := by simp [bys, hd]
  unfold Own
  rw [e]
  exact h
theorem be4_own (w : World) (n : Nat) : Own (w.alloc (.cells #[.int .u8 ((n : Int) / 16777216), .int .u8 ((n : Int) / 65536 % 256), .int .u8 ((n : Int) / 256 % 256), .int .u8 ((n : Int) % 256)] 5)) w.heap.size (.slice (some ⟨w.heap.size, 0, none⟩) 4 4) (be4 n) := by
  have h := World.ownsRow_lit w (base := w.heap.size) (e := 5) (size := 1) #[.int .u8 ((n : Int) / 16777216), .int .u8 ((n : Int) / 65536 % 256), .int .u8 ((n : Int) / 256 % 256), .int .u8 ((n : Int) % 256)] 4 (Nat.le_refl _) (by simp [maxLen]) rfl
  have e : bys (be4 n) = [.int .u8 ((n : Int) / 16777216), .int .u8 ((n : Int) / 65536 % 256), .int .u8 ((n : Int) / 256 % 256), .int .u8 ((n : Int) % 256)] := by simp [bys, be4]
  unfold Own
  rw [e]
  exact h
theorem own_more {w : World} {base n : Nat} {v : Value} {l k : List Nat} (h : w.ownsRow base 5 1 v n (bys l ++ bys k)) (e : n = l.length + k.length) : Own w base v (l ++ k) := by
  subst e
  unfold Own
  simpa [bys] using h
set_option maxRecDepth 100000 in
set_option maxHeartbeats 1000000 in
theorem put_yes (A : Option Addr) (c B : Nat) (l : List Nat) (w : World) (ha : BytesAt w B A l) (hB : B ≤ w.heap.size) (hs : Small l) (hl : l.length ≤ 8192) :
    Calls Try.prog 22 #[.slice A l.length c] w fun e w' => ∃ A' c', e = .returned (.tuple #[.slice A' (recd l).length c', .int .i64 0]) ∧ Own w' w.heap.size (.slice A' (recd l).length c') (recd l) ∧ Below w.heap.size w w' := by
  obtain ⟨i0, hi, hz0, hz1, hz2⟩ := info_parts byte_row
  go_enter Try.func22, Try.ntmps22
  go_wp2_with fail
  have O1 := hd_own w l.length
  have b1 : Below w.heap.size w (w.alloc (.cells #[.int .u8 ((l.length : Int) / 256), .int .u8 ((l.length : Int) % 256)] 5)) := (Below.refl _ _).alloc (Nat.le_refl _) _
  generalize w.alloc (.cells #[.int .u8 ((l.length : Int) / 256), .int .u8 ((l.length : Int) % 256)] 5) = w1 at O1 b1 ⊢
  obtain ⟨g, hg⟩ : ∃ g, g = w.heap.size := ⟨_, rfl⟩
  rw [← hg] at O1
  rw [← hg]
  have hgB : w.heap.size ≤ g := by omega
  clear hg
  replace O1 := O1.mono hgB
  have hsm := hd_small (n := l.length) (by omega)
  have hdl : (hd l.length).length ≤ 2 := by simp [hd]
  refine (clone_any _ 2 _ (hd l.length) w1 O1.reads (by omega)).mono ?_
  rintro e w2 ⟨A2, c2, rfl, O2, b2⟩
  have O1a := O1.below b2 (Nat.le_refl _)
  have n12 := O1.later O2 (Nat.le_refl _)
  have hw1 := b1.size
  have b2a := b1.trans (b2.mono hw1)
  have ha2 := ha.below (b2a.mono hB)
  clear O1
  go_wp2_with (at_builtin; refine wpList_append_any _ rfl (.tmp 18) (.tmp 19) _ rfl w1.heap.size 5 i0 _ 1 1 Try.underlying32 hi hz0 hz1 hz2 rfl (by omega) _ _ _ rfl O2 B A l.length c (bys l) rfl ha2 (bys_one l) (by simp only [maxLen]; omega) (by omega) b2.size ?_; intro v3 w3 o3 g3 at3; have O3 := own_more o3 rfl; obtain ⟨A3, c3, rfl⟩ := O3.form)
  have O1b := O1a.grown g3 n12
  have ha3 := ha2.grownAt g3 (by have := b2a.size; omega) (fun k hk => by have := (World.ownsRow.lt O2 k hk).1; omega)
  have hw2 := b2a.size
  have b3a : Below w.heap.size w w3 := b2a.grown g3 hw2 (fun k hk => by have := (World.ownsRow.lt O2 k hk).1; omega)
  have hS := sum_any A3 c3 _ (hd l.length ++ l) w3 O3.reads (Nat.le_refl _) (hsm.append hs) (by rw [List.length_append]; simp only [maxLen]; omega)
  rw [List.length_append] at hS
  refine hS.mono ?_
  clear hS O1a O2 o3 g3 at3 ha2 b2 b2a
  rintro e w4 ⟨rfl, b4⟩
  have O1c := O1b.below b4 (Nat.le_refl _)
  have hw3 := b3a.size
  have ha4 := ha3.below (b4.mono (by omega))
  have b4a := b3a.trans (b4.mono hw3)
  have hcr : Crc.crc (hd l.length ++ l) < 4294967296 := Crc.crc_lt (hsm.append hs)
  have he : recd l = hd l.length ++ be4 (Crc.crc (hd l.length ++ l)) ++ l := rfl
  generalize Crc.crc (hd l.length ++ l) = s at hcr he ⊢
  have HE := Lib.hid he
  clear he O1b O3 b3a ha3 b4 hw3
  have hw4 := b4a.size
  have L4 := be4_own w4 s
  have O1d := O1c.alloc (.cells #[.int .u8 ((s : Int) / 16777216), .int .u8 ((s : Int) / 65536 % 256), .int .u8 ((s : Int) / 256 % 256), .int .u8 ((s : Int) % 256)] 5)
  have ha5 : BytesAt (w4.alloc (.cells #[.int .u8 ((s : Int) / 16777216), .int .u8 ((s : Int) / 65536 % 256), .int .u8 ((s : Int) / 256 % 256), .int .u8 ((s : Int) % 256)] 5)) B A l := Reads.alloc ha4 (by omega) _
  have b5a := b4a.alloc hw4 (.cells #[.int .u8 ((s : Int) / 16777216), .int .u8 ((s : Int) / 65536 % 256), .int .u8 ((s : Int) / 256 % 256), .int .u8 ((s : Int) % 256)] 5)
  clear O1c ha4
  have hbl : (be4 s).length ≤ 4 := by simp [be4]
  go_wp2_with (first
    | (at_builtin; refine wpList_append_any _ rfl (.tmp 22) (.tmp 34) _ rfl w.heap.size 5 i0 _ 1 1 Try.underlying32 hi hz0 hz1 hz2 rfl (by omega) _ _ _ rfl O1d _ _ 4 4 (bys (be4 s)) rfl L4.reads (bys_one _) (by simp only [maxLen]; omega) (by omega) b5a.size ?_; intro v6 w6 o6 g6 at6; have O6 := own_more o6 rfl; have b6 := b5a.grown g6 b5a.size (fun k hk => (World.ownsRow.lt O1d k hk).1); have ha6 := ha.below (b6.mono hB); obtain ⟨A6, c6, rfl⟩ := O6.form)
    | (at_builtin; refine wpList_append_any _ rfl (.tmp 36) (.tmp 37) _ rfl w.heap.size 5 i0 _ 1 1 Try.underlying32 hi hz0 hz1 hz2 rfl (by omega) _ _ _ rfl O6 B A l.length c (bys l) rfl ha6 (bys_one l) (by rw [List.length_append]; simp only [maxLen]; omega) (by rw [List.length_append]; omega) b6.size ?_; intro v7 w7 o7 g7 at7; have O7 := own_more o7 rfl; have b7 := b6.grown g7 b6.size (fun k hk => (World.ownsRow.lt O6 k hk).1); obtain ⟨A7, c7, rfl⟩ := O7.form))
  go_ret2
  have e : (recd l).length = (hd l.length).length + ((be4 s).length + l.length) := by rw [HE.out]; simp
  rw [← HE.out] at O7
  exact ⟨A7, c7, by rw [e]; rfl, O7, b7⟩
theorem put_no (A : Option Addr) (c n : Nat) (w : World) (hl : 8192 < n) (hm : n ≤ maxLen) :
    Calls Try.prog 22 #[.slice A n c] w fun e w' => e = .returned (.tuple #[.slice none 0 0, .int .i64 3]) ∧ w = w' := by
  unfold maxLen at hm
  go_enter Try.func22, Try.ntmps22
  go_wp2_with fail
  go_ret2
  exact ⟨rfl, rfl⟩
end Go.Proofs.Ytkhbpaloicefdaa
