/- Two boxes and a list that was told, carried from call to call. -/
import Derived.Test.YtegjpfdbfjfolaaList
import Derived.Deep.LoopGhost
namespace Go.Proofs.Ytegjpfdbfjfolaa
open Go.RowKit
/-- An operation whose guard wants it: as if it had none. -/
theorem ungate {P : Program} {ops : Array Oper} {rest : List Oper} {o : Oper} {a : Act} {Q : Exit → Act → World → Prop} {W : World} (hw : Region.wanted o (yielded ops a.tmps) = true) (h : wpList P ops Q ({ o with guard := none } :: rest) a W) : wpList P ops Q (o :: rest) a W := by
  have h1 : Region.wanted { o with guard := none } (yielded ops a.tmps) = true := rfl
  unfold wpList at h ⊢
  rw [if_pos h1] at h
  rw [if_pos hw]
  exact h
theorem below_only {a w : World} (h : Below a.heap.size a w) : a.grownBy w none := ⟨h.os, h.tape, h.output, h.size, fun i hi _ => h.block i hi⟩
theorem drew_only (w : World) (n : Nat) : w.grownBy (w.drewN n) none := ⟨rfl, rfl, rfl, Nat.le_refl _, fun _ _ _ => rfl⟩
theorem ints_quiet (A A' : Option Addr) (c c' B B' : Nat) (l k : List Int) (w : World) (ha : IntsAt w B A l) (hb : IntsAt w B' A' k) (hl : l.length ≤ 140737488355328) :
    Calls Try.prog 18 #[.slice A l.length c, .slice A' k.length c'] w fun e w' => e = .returned (.bool (decide (l = k))) ∧ w.grownBy w' none :=
  (ints_any A A' c c' B B' l k w ha hb hl).mono fun e w' ⟨he, n, hw⟩ => ⟨he, by subst hw; exact drew_only w n⟩
theorem ints_alike (A A' : Option Addr) (c c' B B' : Nat) (l : List Int) (w : World) (ha : IntsAt w B A l) (hb : IntsAt w B' A' l) (hl : l.length ≤ 140737488355328) :
    Calls Try.prog 18 #[.slice A l.length c, .slice A' l.length c'] w fun e w' => e = .returned (.bool true) ∧ w.grownBy w' none :=
  (ints_quiet A A' c c' B B' l l w ha hb hl).mono fun e w' ⟨he, hw⟩ => ⟨by rw [he]; simp, hw⟩
theorem copy_quiet (A : Option Addr) (c B : Nat) (l : List Int) (w : World) (ha : IntsAt w B A l) (hl : l.length ≤ 1000000) :
    Calls Try.prog 20 #[.slice A l.length c] w fun e w' => ∃ A' c', e = .returned (.slice A' l.length c') ∧ w'.ownsRow w.heap.size 3 1 (.slice A' l.length c') l.length (vals l) ∧ w.grownBy w' none :=
  (copy_any A c B l w ha hl).mono fun e w' ⟨v, he, ho, hb⟩ => by
    obtain ⟨A', c', rfl⟩ := own_form ho
    exact ⟨A', c', he, ho, below_only hb⟩
theorem list_slice {w : World} {b c cap : Nat} {l : List Int} (h : BoxAt w b c cap l) (hl : l.length ≤ cap) (hcap : cap ≤ 1000) :
    Calls Try.prog 19 #[.pointer (some ⟨b, 0, none⟩)] w fun e w' => ∃ A' c', e = .returned (.slice A' l.length c') ∧ w'.ownsRow w.heap.size 3 1 (.slice A' l.length c') l.length (vals l) ∧ BoxAt w' b c cap l ∧ w.grownBy w' (some c) :=
  (list_any h hl hcap).mono fun e w' ⟨v, he, ho, hb, hg⟩ => by
    obtain ⟨A', c', rfl⟩ := own_form ho
    exact ⟨A', c', he, ho, hb, hg⟩

theorem own_quiet {w w' : World} {base n : Nat} {v : Value} {xs : List Value} (h : w.ownsRow base 3 1 v n xs) (g : w.grownBy w' none) : w'.ownsRow base 3 1 v n xs :=
  h.kept g (by cases hv : v.ownBlock <;> simp)
structure Two (W : World) (B b ch bn cn n base : Nat) (A : Option Addr) (cp : Nat) (S : List Int) (w : World) (L M : List Int) : Prop where
  x : BoxAt w b ch n L
  y : BoxAt w bn cn n M
  s : w.ownsRow base 3 1 (.slice A S.length cp) S.length (vals S)
  bel : Below B W w
  size : B ≤ w.heap.size
  f : B ≤ ch ∧ B ≤ cn ∧ ch ≠ cn ∧ ch ≠ bn ∧ b ≠ cn ∧ ch < base ∧ cn < base
section
variable {W w w' : World} {B b ch bn cn n base cp : Nat} {A : Option Addr} {S L M L' M' : List Int}
theorem Two.quiet (h : Two W B b ch bn cn n base A cp S w L M) (g : w.grownBy w' none) : Two W B b ch bn cn n base A cp S w' L M :=
  ⟨h.x.grown g (by simp) (by simp), h.y.grown g (by simp) (by simp), own_quiet h.s g, h.bel.grown g h.size (by simp), Nat.le_trans h.size g.size, h.f⟩
theorem Two.fst (h : Two W B b ch bn cn n base A cp S w L M) (hx : BoxAt w' b ch n L') (g : w.grownBy w' (some ch)) : Two W B b ch bn cn n base A cp S w' L' M := by
  obtain ⟨f1, f2, f3, f4, f5, f6, f7⟩ := h.f
  exact ⟨hx, h.y.grown g (by simpa using f4) (by simpa using f3), h.s.kept g (.inr (new_ne h.s f6)), h.bel.grown g h.size (by intro g e; injection e with e; omega), Nat.le_trans h.size g.size, h.f⟩
theorem Two.snd (h : Two W B b ch bn cn n base A cp S w L M) (hy : BoxAt w' bn cn n M') (g : w.grownBy w' (some cn)) : Two W B b ch bn cn n base A cp S w' L M' := by
  obtain ⟨f1, f2, f3, f4, f5, f6, f7⟩ := h.f
  exact ⟨h.x.grown g (by simpa using f5.symm) (by simpa using f3.symm), hy, h.s.kept g (.inr (new_ne h.s f7)), h.bel.grown g h.size (by intro g e; injection e with e; omega), Nat.le_trans h.size g.size, h.f⟩
end
end Go.Proofs.Ytegjpfdbfjfolaa
