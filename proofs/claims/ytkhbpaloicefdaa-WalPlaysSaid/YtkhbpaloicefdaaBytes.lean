/- Bytes on memory: a slice of bytes that reads as a list of numbers. -/
import Derived.Test.YtkhbpaloicefdaaMem
import Derived.Test.YtkhbpaloicefdaaStep
import Derived.OpenShut
namespace Go.Proofs.Ytkhbpaloicefdaa
open Go.RowKit
def bys (l : List Nat) : List Value := l.map fun n : Nat => .int .u8 (n : Int)
theorem bys_length (l : List Nat) : (bys l).length = l.length := by simp [bys]
theorem bys_get {l : List Nat} {k : Nat} {u : Value} (h : (bys l)[k]? = some u) : ∃ n, l[k]? = some n ∧ u = .int .u8 (n : Int) := by
  simp only [bys, List.getElem?_map] at h
  cases hk : l[k]? with
  | none => rw [hk] at h; cases h
  | some n => rw [hk] at h; exact ⟨n, rfl, by simpa using h.symm⟩
theorem bys_one (l : List Nat) : ∀ u ∈ bys l, u.oneCell' = true := by
  intro u hu
  obtain ⟨n, _, rfl⟩ := List.mem_map.1 hu
  rfl
/-- A slice of bytes reads as l, below block B. -/
def BytesAt (w : World) (B : Nat) (A : Option Addr) (l : List Nat) : Prop := Reads w B 1 A l.length (bys l)
def Small (l : List Nat) : Prop := ∀ x ∈ l, x < 256
section
variable {w w' : World} {B : Nat} {A : Option Addr} {l : List Nat}
theorem BytesAt.get (h : BytesAt w B A l) {k : Nat} (hk : k < l.length) : ∃ ad, A = some ad ∧ w.cell? (ad.add k) = some (.int .u8 (l[k] : Int)) := by
  obtain ⟨ad, u, hA, _, hx, hc⟩ := h.at_ hk
  obtain ⟨n, hn, rfl⟩ := bys_get hx
  rw [List.getElem?_eq_getElem hk] at hn
  injection hn with hn
  subst hn
  exact ⟨ad, hA, hc⟩
theorem BytesAt.below (h : BytesAt w B A l) (hb : Below B w w') : BytesAt w' B A l := Reads.below h hb
theorem Small.get (h : Small l) {k : Nat} (hk : k < l.length) : l[k] < 256 := h _ (List.getElem_mem hk)
theorem Small.take (h : Small l) (k : Nat) : Small (l.take k) := fun x hx => h x (List.mem_of_mem_take hx)
theorem Small.drop (h : Small l) (k : Nat) : Small (l.drop k) := fun x hx => h x (List.mem_of_mem_drop hx)
theorem Small.append {k : List Nat} (h : Small l) (h' : Small k) : Small (l ++ k) := fun x hx => by
  rcases List.mem_append.1 hx with h1 | h1
  · exact h x h1
  · exact h' x h1
end
end Go.Proofs.Ytkhbpaloicefdaa
