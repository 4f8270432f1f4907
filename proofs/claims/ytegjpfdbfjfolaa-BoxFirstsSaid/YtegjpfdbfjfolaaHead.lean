/- box.First: the first of the boxes that is not empty. -/
import Derived.Test.YtegjpfdbfjfolaaArgs
namespace Go.Proofs.Ytegjpfdbfjfolaa
open Go.RowKit

/-- Boxes: their blocks, their channels' blocks, how much room, what they hold. -/
structure Bx where
  b : Nat
  c : Nat
  cap : Nat
  l : List Int
def Bx.ptr (x : Bx) : Value := .pointer (some ⟨x.b, 0, none⟩)
def Bx.At (w : World) (x : Bx) : Prop := BoxAt w x.b x.c x.cap x.l
theorem ptrs_get {bs : List Bx} {w : World} {B : Nat} {A : Option Addr} (h : Reads w B 1 A bs.length (bs.map Bx.ptr)) {k : Nat} (hk : k < bs.length) : ∃ ad, A = some ad ∧ w.cell? (ad.add k) = some (.pointer (some ⟨bs[k].b, 0, none⟩)) := by
  obtain ⟨ad, u, hA, _, hx, hc⟩ := h.at_ hk
  rw [List.getElem?_map, List.getElem?_eq_getElem hk] at hx
  simp only [Option.map_some, Option.some.injEq] at hx
  subst hx
  exact ⟨ad, hA, hc⟩
theorem at_empty {w : World} {x : Bx} (h : x.At w) (he : x.l = []) : BoxAt w x.b x.c x.cap [] := he ▸ h
theorem at_cons {w : World} {x : Bx} {n : Int} {t : List Int} (h : x.At w) (he : x.l = n :: t) : BoxAt w x.b x.c x.cap (n :: t) := he ▸ h

set_option maxHeartbeats 400000 in
theorem first_hit (A : Option Addr) (c B : Nat) (bs : List Bx) (w : World) (hA : Reads w B 1 A bs.length (bs.map Bx.ptr)) (hb : ∀ x ∈ bs, Bx.At w x) (hl : bs.length ≤ 1000) (k : Nat) (hk : k < bs.length) (he : ∀ i (h : i < bs.length), i < k → bs[i].l = []) (n : Int) (t : List Int) (ht : bs[k].l = n :: t) :
    Calls Try.prog 14 #[.slice A bs.length c] w fun e w' => e = .returned (.tuple #[.int .i64 (k : Int), .int .i64 n, .bool true]) ∧ BoxAt w' bs[k].b bs[k].c bs[k].cap t ∧ Turned bs[k].c w w' := by
  have HE := Lib.hid he
  have HT := Lib.hid ht
  have HB := Lib.hid hb
  clear he ht hb
  go_enter Try.func14, Try.ntmps14
  go_wp2_with fail
  go_loopw [11] (fun i wr => ∃ j : Nat, j ≤ k ∧ i = .int .i64 j ∧ wr = w) (fun i _ => bs.length - (intOf i).toNat)
  case atStart => exact ⟨0, Nat.zero_le _, rfl, rfl⟩
  case round =>
    obtain ⟨j, hj, rfl, rfl⟩ := hrel
    have hjl : j < bs.length := by omega
    obtain ⟨ad, rfl, hc0⟩ := ptrs_get hA hjl
    by_cases hlt : j < k
    · have hbox := at_empty (HB.out bs[j] (List.getElem_mem hjl)) (HE.out j hjl hlt)
      go_wp2_with fail
      refine (take_no hbox).mono ?_
      rintro e w3 ⟨rfl, rfl⟩
      go_wp2_with fail
      go_roundw
      case rel => exact ⟨j + 1, by omega, by go_num, trivial⟩
      case measure => simp [intOf]; omega
    · obtain rfl : k = j := by omega
      have hbox := at_cons (HB.out bs[k] (List.getElem_mem hjl)) HT.out
      go_wp2_with fail
      refine (take_yes hbox).mono ?_
      rintro e w3 ⟨rfl, h3, t3⟩
      go_wp2_with fail
      go_ret3
      exact ⟨rfl, h3, t3⟩
set_option maxHeartbeats 400000 in
theorem first_miss (A : Option Addr) (c B : Nat) (bs : List Bx) (w : World) (hA : Reads w B 1 A bs.length (bs.map Bx.ptr)) (hb : ∀ x ∈ bs, Bx.At w x) (hl : bs.length ≤ 1000) (he : ∀ i (h : i < bs.length), bs[i].l = []) :
    Calls Try.prog 14 #[.slice A bs.length c] w fun e w' => e = .returned (.tuple #[.int .i64 0, .int .i64 0, .bool false]) ∧ w = w' := by
  have HE := Lib.hid he
  have HB := Lib.hid hb
  clear he hb
  go_enter Try.func14, Try.ntmps14
  go_wp2_with fail
  go_loopw [11] (fun i wr => ∃ j : Nat, j ≤ bs.length ∧ i = .int .i64 j ∧ wr = w) (fun i _ => bs.length - (intOf i).toNat)
  case atStart => exact ⟨0, Nat.zero_le _, rfl, rfl⟩
  case round =>
    obtain ⟨j, hj, rfl, rfl⟩ := hrel
    by_cases hlt : j < bs.length
    · obtain ⟨ad, rfl, hc0⟩ := ptrs_get hA hlt
      have hbox := at_empty (HB.out bs[j] (List.getElem_mem hlt)) (HE.out j hlt)
      go_wp2_with fail
      refine (take_no hbox).mono ?_
      rintro e w3 ⟨rfl, rfl⟩
      go_wp2_with fail
      go_roundw
      case rel => exact ⟨j + 1, by omega, by go_num, trivial⟩
      case measure => simp [intOf]; omega
    · go_wp2_with fail
      go_ret3
      exact ⟨rfl, rfl⟩
end Go.Proofs.Ytegjpfdbfjfolaa
