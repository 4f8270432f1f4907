/- What a law's walk holds of its zone. -/
import Derived.Test.YtbnchbcdgffkaaaArgs
import Derived.Test.YtbnchbcdgffkaaaWin
namespace Go.Proofs.Ytbnchbcdgffkaaa
open Go.RowKit
set_option linter.unusedVariables false
/-- The zone of a law, in its box at p. -/
structure St (w0 w : World) (p : Nat) (bs : Int) (A : Option Addr) (c : Nat) (A' : Option Addr) (c' : Nat) (fr : Int) (L : List Sh) (Y : List Yr) : Prop where
  b : Below w0.heap.size w0 w
  z : ZAt w w0.heap.size A A' L Y
  x : Boxed w p bs A L.length c A' Y.length c' fr
section
variable {w0 w w' : World} {p : Nat} {bs : Int} {A : Option Addr} {c : Nat} {A' : Option Addr} {c' : Nat} {fr : Int} {L : List Sh} {Y : List Yr}
theorem St.le (s : St w0 w p bs A c A' c' fr L Y) : w0.heap.size ≤ w.heap.size := s.b.size
theorem St.step (s : St w0 w p bs A c A' c' fr L Y) (b : Below w.heap.size w w') : St w0 w' p bs A c A' c' fr L Y :=
  ⟨s.b.trans (b.mono s.le), s.z.below (b.mono s.le), s.x.below b s.x.lt⟩
theorem St.new_ (h : ZAt w w.heap.size A A' L Y) : St w (w.alloc (zo bs A L.length c A' Y.length c' fr)) w.heap.size bs A c A' c' fr L Y :=
  ⟨(Below.refl _ _).alloc (Nat.le_refl _) _, h.below ((Below.refl _ _).alloc (Nat.le_refl _) _), Boxed.new_ w⟩
theorem St.alloc (s : St w0 w p bs A c A' c' fr L Y) (o : Obj) : St w0 (w.alloc o) p bs A c A' c' fr L Y := s.step ((Below.refl _ _).alloc (Nat.le_refl _) o)
theorem St.drew (s : St w0 w p bs A c A' c' fr L Y) : St w0 w.drew p bs A c A' c' fr L Y := ⟨s.b.drew, ⟨s.z.s, s.z.y, s.z.l, s.z.l'⟩, s.x.drew⟩
theorem St.cells (s : St w0 w p bs A c A' c' fr L Y) : p < w.heap.size ∧ w.cell? ⟨p, 0, none⟩ = some (.int .i64 bs) ∧ w.cell? ⟨p, 1, none⟩ = some (.slice A L.length c) ∧ w.cell? ⟨p, 2, none⟩ = some (.slice A' Y.length c') ∧ w.cell? ⟨p, 3, none⟩ = some (.int .i64 fr) := ⟨s.x.lt, s.x.c0, s.x.c1, s.x.c2, s.x.c3⟩
end
theorem IsOff.same {bs : Int} {P : Sh → Prop} (h : Sep P) {u o q : Int} (a : IsOff bs P u (o - u)) (b : IsOff bs P u (q - u)) : o = q := by
  have := a.uniq h b
  omega
end Go.Proofs.Ytbnchbcdgffkaaa
