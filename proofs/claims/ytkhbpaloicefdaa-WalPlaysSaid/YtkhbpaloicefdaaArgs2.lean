/- Arguments: a slice of bytes with its room. -/
import Derived.Test.YtkhbpaloicefdaaArgs
import Derived.Test.YtkhbpaloicefdaaGetd
namespace Go.Proofs.Ytkhbpaloicefdaa
open Go.RowKit Go.ChangeShapes Go.WideShapes
section
variable {H : Type} {enc : TypeId × Value → H} {W : World}
theorem bytes_room {fuel : Nat} {a : Option Addr} {len cap : Nat} {x : DataW H × List MemPlace} (h : DataW.trod enc Try.prog W 0 (fun _ => true) true fuel 32 [.slice a len cap] = some x) :
    ∃ l : List Nat, l.length = len ∧ BytesAt W W.heap.size a l ∧ Small l ∧ len ≤ maxLen ∧ Room a len cap := by
  obtain ⟨l, h1, h2, h3, h4⟩ := bytes_read h
  refine ⟨l, h1, h2, h3, h4, ?_⟩
  rcases open_ints Try.underlying32 Try.underlying5 (by kernel_rfl) h with ⟨hcs, _⟩ | ⟨b, l, c, zs, hcs, _, hl, hm, _⟩
  · injection hcs with hcs _
    injection hcs with e1 e2 e3
    subst e1 e2 e3
    exact ⟨Nat.le_refl _, by simp⟩
  · injection hcs with hcs _
    injection hcs with e1 e2 e3
    subst e1 e2 e3
    exact ⟨hl, hm⟩
end
end Go.Proofs.Ytkhbpaloicefdaa
