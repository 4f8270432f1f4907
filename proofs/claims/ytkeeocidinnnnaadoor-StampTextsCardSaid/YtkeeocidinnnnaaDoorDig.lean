/- strconv.Itoa, strings.Repeat by the shelf's contracts; stamp.digits. -/
import Derived.Test.YtkeeocidinnnnaaDoorShelf
import Derived.Test.YtkeeocidinnnnaaDoorDate
import Derived.Lib.LaidTab
namespace Go.Proofs.YtkeeocidinnnnaaDoor
open Go.RowKit Go.Sort
set_option linter.unusedVariables false
/-- The table of powers is laid. -/
def Tab (w : World) : Prop := Lib.TabIs Tryd.prog w "internal/strconv.uint64pow10" .u64 Lib.pow10Tab
theorem var_below {w w' : World} {n : String} {g : Nat} {cs : Array Value} (hg : Tryd.prog.globalNamed n = some g) (h : w.var? Tryd.prog n = some cs) (b : Below w.heap.size w w') : w'.var? Tryd.prog n = w.var? Tryd.prog n := by
  unfold World.var? at h ⊢
  rw [hg] at h ⊢
  simp only [Option.bind_some] at h ⊢
  have hlt : g < w.heap.size := by
    by_cases q : g < w.heap.size
    · exact q
    · rw [Array.getElem?_eq_none (by omega)] at h
      cases h
  rw [b.block g hlt]
theorem Tab.below {w w' : World} (h : Tab w) (b : Below w.heap.size w w') : Tab w' := by
  unfold Tab Lib.TabIs at h ⊢
  exact (var_below (g := 0) (by kernel_rfl) h b).trans h
theorem below_grow (w : World) (k : Nat) (os : Array Obj) : Below w.heap.size w (grow (w.drewN k) os) := by
  refine ⟨rfl, rfl, rfl, by simp [grow, World.drewN], fun i hi => ?_⟩
  show (w.heap ++ os)[i]? = w.heap[i]?
  rw [Array.getElem?_append_left hi]
theorem itoa_any (n : Int) (h0 : -9223372036854775808 ≤ n) (h1 : n ≤ 9223372036854775807) (w : World) (ht : Tab w) :
    Calls Tryd.prog 38 #[.int .i64 n] w fun e w' => e = .returned (.string ⟨(Lib.itoa n).toArray⟩) ∧ Below w.heap.size w w' := by
  refine (Tryd.strconv_Itoa n h0 h1 w ht).mono ?_
  rintro e w' ⟨rfl, k, os, rfl⟩
  exact ⟨rfl, below_grow w k os⟩
theorem ba_app (a b : List UInt8) : (⟨a.toArray⟩ : ByteArray) ++ ⟨b.toArray⟩ = ⟨(a ++ b).toArray⟩ := by
  apply ByteArray.ext
  simp [ByteArray.data_append]
theorem nDigits_le : ∀ (k u : Nat), u < 10 ^ (k + 1) → Lib.nDigits u ≤ k + 1
  | 0, u, h => by rw [Lib.nDigits_small (by omega)]; omega
  | k + 1, u, h => by
    by_cases q : u < 10
    · rw [Lib.nDigits_small q]; omega
    · rw [Lib.nDigits_big q]
      have := nDigits_le k (u / 10) (by rw [Nat.pow_succ] at h; omega)
      omega
theorem itoa_len (n : Int) (h0 : 0 ≤ n) (h1 : n < 10000000000000000000) : (Lib.itoa n).length ≤ 20 := by
  unfold Lib.itoa
  rw [if_neg (by omega), Lib.decDigits_length]
  exact nDigits_le 19 _ (by omega)
/-- A number by so many digits. -/
def dgs (n : Int) (k : Nat) : List UInt8 := Lib.repeatL [48] (k - (Lib.itoa n).length) ++ Lib.itoa n
set_option maxHeartbeats 2000000 in
theorem digits_any (n : Int) (k : Nat) (h0 : 0 ≤ n) (h1 : n ≤ 1000000000) (hk : k ≤ 100) (w : World) (ht : Tab w) :
    Calls Tryd.prog 33 #[.int .i64 n, .int .i64 (k : Int)] w fun e w' => e = .returned (.string ⟨(dgs n k).toArray⟩) ∧ Below w.heap.size w w' := by
  have hI := itoa_any n (by omega) (by omega)
  obtain ⟨l, hl⟩ : ∃ l, l = Lib.itoa n := ⟨_, rfl⟩
  have hlen : l.length ≤ 20 := by rw [hl]; exact itoa_len n h0 (by omega)
  unfold dgs
  rw [← hl]
  rw [← hl] at hI
  have hRep := fun w => Tryd.strings_Repeat ⟨#[48]⟩ (k - l.length) w (by omega) (by show 1 * _ ≤ _; omega)
  rw [show (⟨#[48]⟩ : ByteArray).data.toList = [48] from rfl] at hRep
  have hRl : (Lib.repeatL [48] (k - l.length)).length ≤ 100 := by rw [Lib.repeatL_length]; simp; omega
  generalize Lib.repeatL [48] (k - l.length) = R at hRl hRep ⊢
  have hno : ¬ (9223372036854775807 < R.length + l.length) := by omega
  replace hl := Lib.hid hl
  go_enter Tryd.func33, Tryd.ntmps33
  go_wp2_with fail
  refine (hI _ ht).mono ?_
  rintro e w1 ⟨rfl, b1⟩
  go_wp2_with fail
  have he : max ((k : Int) - (l.length : Int)) 0 = ((k - l.length : Nat) : Int) := by omega
  rw [he]
  refine (hRep w1).mono ?_
  rintro e w2 ⟨rfl, b2⟩
  go_wp2_with fail
  go_ret
  exact ⟨by rw [← ba_app]; rfl, b1.trans (b2.mono b1.size)⟩
end Go.Proofs.YtkeeocidinnnnaaDoor
