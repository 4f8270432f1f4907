/- vokref.Bytes, bytes.Equal: are two rows of bytes alike? -/
import Derived.Test.YtkhbpaloicefdaaCopy
import Derived.Laws.BytesArg
import Derived.Lib.Bytes
namespace Go.Proofs.Ytkhbpaloicefdaa
open Go.RowKit
set_option linter.unusedVariables false
def strOf (l : List Nat) : ByteArray := strOfNums (l.map fun n : Nat => (n : Int))
theorem conv_any {w : World} {B : Nat} {A : Option Addr} {l : List Nat} (c : Nat) (h : BytesAt w B A l) : (convert 32 9 (.slice A l.length c)).run Try.prog w = .ok (.string (strOf l)) w := by
  cases A with
  | none =>
    have : l = [] := by
      cases l with
      | nil => rfl
      | cons x l => obtain ⟨ad, e, _⟩ := h.get (k := 0) (by simp); cases e
    subst this
    exact run_convert_bytes_nil w 32 5 Try.underlying32 Try.underlying5 _ _ 9 Try.underlying9
  | some a =>
    have hl : (loadCells a l.length).run Try.prog w = .ok ((l.map fun n : Nat => (n : Int)).map (Value.int .u8)).toArray w := by
      have := run_loadCells_list (P := Try.prog) w a ((l.map fun n : Nat => (n : Int)).map (Value.int .u8)) (fun j v hj => by
        simp only [List.map_map, List.getElem?_map, Option.map_eq_some_iff] at hj
        obtain ⟨n, hn, rfl⟩ := hj
        obtain ⟨hjl, rfl⟩ := List.getElem?_eq_some_iff.1 hn
        obtain ⟨ad, e, hc⟩ := h.get hjl
        injection e with e
        subst e
        exact hc)
      simpa using this
    rw [run_convert_bytes_string w 32 9 5 _ l.length c Try.underlying32 Try.underlying5 Try.underlying9, run_bytesToString w _ l.length c _ hl, foldl_push_bytes]
    simp [strOf, strOfNums, ByteArray.empty, ByteArray.emptyWithCapacity]
    rfl
theorem strOf_list (l : List Nat) : (strOf l).toList = l.map fun n => UInt8.ofNat n := by
  unfold strOf
  rw [Lib.strOfNums_toList]
  unfold Lib.bytesOf
  simp
theorem strOf_eq {l k : List Nat} (hl : Small l) (hk : Small k) : ((strOf l).toList == (strOf k).toList) = decide (l = k) := by
  have e : ∀ l : List Nat, Small l → (l.map fun n => UInt8.ofNat n).map UInt8.toNat = l := by
    intro l hl
    rw [List.map_map]
    conv => rhs; rw [← List.map_id l]
    apply List.map_congr_left
    intro x hx
    have := hl x hx
    simp [Nat.mod_eq_of_lt this]
  by_cases h : l = k
  · subst h; simp
  · rw [decide_eq_false h, strOf_list, strOf_list]
    refine beq_eq_false_iff_ne.2 fun e2 => h ?_
    have h2 := congrArg (List.map UInt8.toNat) e2
    rwa [e l hl, e k hk] at h2
set_option maxRecDepth 100000 in
theorem bytes_any (A A' : Option Addr) (c c' B B' : Nat) (l k : List Nat) (w : World) (ha : BytesAt w B A l) (hb : BytesAt w B' A' k) (sl : Small l) (sk : Small k) :
    Calls Try.prog 21 #[.slice A l.length c, .slice A' k.length c'] w fun e w' => e = .returned (.bool (decide (l = k))) ∧ w = w' := by
  have q0 := conv_any c ha
  have q1 := conv_any c' hb
  have q2 := strOf_eq sl sk
  go_enter Try.func21, Try.ntmps21
  go_wp2_with fail
  go_ret
  exact ⟨rfl, rfl⟩
set_option maxRecDepth 100000 in
theorem equal_any (A A' : Option Addr) (c c' B B' : Nat) (l k : List Nat) (w : World) (ha : BytesAt w B A l) (hb : BytesAt w B' A' k) (sl : Small l) (sk : Small k) :
    Calls Try.prog 52 #[.slice A l.length c, .slice A' k.length c'] w fun e w' => e = .returned (.bool (decide (l = k))) ∧ w = w' := by
  have q0 := conv_any c ha
  have q1 := conv_any c' hb
  have q2 := strOf_eq sl sk
  go_enter Try.func52, Try.ntmps52
  go_wp2_with fail
  go_ret
  exact ⟨rfl, rfl⟩
end Go.Proofs.Ytkhbpaloicefdaa
