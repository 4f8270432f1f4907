/- voklaw3.middle, first; vokref.FewZone. -/
import Derived.Test.YtbnchbcdgffkaaaSame
import Derived.Test.YtbnchbcdgffkaaaPar
namespace Go.Proofs.Ytbnchbcdgffkaaa
open Go.RowKit
set_option linter.unusedVariables false
set_option linter.unusedSimpArgs false
/-- A zone in a block. -/
structure Four (w : World) (p : Nat) (bs : Int) (A : Option Addr) (n c : Nat) (A' : Option Addr) (n' c' : Nat) (fr : Int) : Prop where
  blk : w.heap[p]? = some (zo bs A n c A' n' c' fr)
theorem results_zone {fn : Func} {p : Tmp} (h : fn.results = #[.cell p 25]) (tmps : Array Value) (w : World) {g : Nat} {bs : Int} {A : Option Addr} {n c : Nat} {A' : Option Addr} {n' c' : Nat} {fr : Int}
    (hp : tmps.getD p undef = .pointer (some ⟨g, 0, none⟩)) (hg : Four w g bs A n c A' n' c' fr) :
    (results fn tmps).run Try.prog w = .ok (zv bs A n c A' n' c' fr) w := by
  have hp' : tmps[p]?.getD undef = .pointer (some ⟨g, 0, none⟩) := by simpa using hp
  have hi : (Try.prog.info? 25).map (·.size) = some 4 := by kernel_rfl
  simp [results, h, hp', asAddr, run_loadVar_row w g _ 25 _ _ _ hg.blk Try.underlying25 rfl hi]
def mid0 : Yr := ⟨3, 5, 6, 3600, 7200⟩
def mid1 : Yr := ⟨10, 5, 6, 3600, 3600⟩
theorem middle_any (w : World) : Calls Try.prog 29 #[] w fun e w' => ∃ g, e = .returned (zv 3600 none 0 0 (some ⟨g, 0, none⟩) 2 2 1996) ∧ Below w.heap.size w w' ∧ YrAt w' w'.heap.size (some ⟨g, 0, none⟩) [mid0, mid1] := by
  go_enter Try.func29, Try.ntmps29
  go_wp2_with fail
  have HF : Four ((w.alloc (zo 3600 none 0 0 (some ⟨w.heap.size + 1, 0, none⟩) 2 2 1996)).alloc (.cells #[.int .i64 3, .int .i64 5, .int .i64 6, .int .i64 3600, .int .i64 7200, .int .i64 10, .int .i64 5, .int .i64 6, .int .i64 3600, .int .i64 3600] 50)) w.heap.size 3600 none 0 0 (some ⟨w.heap.size + 1, 0, none⟩) 2 2 1996 := by
    refine ⟨(Below.heap_alloc _ _ _ (by simp)).trans ?_⟩
    show (w.heap.push _)[w.heap.size]? = _
    simp
  have b := ((Below.refl w.heap.size w).alloc (Nat.le_refl _) (zo 3600 none 0 0 (some ⟨w.heap.size + 1, 0, none⟩) 2 2 1996)).alloc (by simp) (.cells #[.int .i64 3, .int .i64 5, .int .i64 6, .int .i64 3600, .int .i64 7200, .int .i64 10, .int .i64 5, .int .i64 6, .int .i64 3600, .int .i64 3600] 50)
  have HY : YrAt ((w.alloc (zo 3600 none 0 0 (some ⟨w.heap.size + 1, 0, none⟩) 2 2 1996)).alloc (.cells #[.int .i64 3, .int .i64 5, .int .i64 6, .int .i64 3600, .int .i64 7200, .int .i64 10, .int .i64 5, .int .i64 6, .int .i64 3600, .int .i64 3600] 50)) ((w.alloc (zo 3600 none 0 0 (some ⟨w.heap.size + 1, 0, none⟩) 2 2 1996)).alloc (.cells #[.int .i64 3, .int .i64 5, .int .i64 6, .int .i64 3600, .int .i64 7200, .int .i64 10, .int .i64 5, .int .i64 6, .int .i64 3600, .int .i64 3600] 50)).heap.size (some ⟨w.heap.size + 1, 0, none⟩) [mid0, mid1] := by
    have hsz : (w.alloc (zo 3600 none 0 0 (some ⟨w.heap.size + 1, 0, none⟩) 2 2 1996)).heap.size = w.heap.size + 1 := by simp
    have hc : ∀ i, ((w.alloc (zo 3600 none 0 0 (some ⟨w.heap.size + 1, 0, none⟩) 2 2 1996)).alloc (.cells #[.int .i64 3, .int .i64 5, .int .i64 6, .int .i64 3600, .int .i64 7200, .int .i64 10, .int .i64 5, .int .i64 6, .int .i64 3600, .int .i64 3600] 50)).cell? ⟨w.heap.size + 1, i, none⟩ = (#[Value.int .i64 3, .int .i64 5, .int .i64 6, .int .i64 3600, .int .i64 7200, .int .i64 10, .int .i64 5, .int .i64 6, .int .i64 3600, .int .i64 3600])[i]? := fun i => World.cell?_alloc_at _ _ _ _ hsz.symm
    intro k hk
    match k, hk with
    | 0, _ => exact ⟨_, rfl, by simp [Addr.add], hc 0, hc 1, hc 2, hc 3, hc 4⟩
    | 1, _ => exact ⟨_, rfl, by simp [Addr.add], hc 5, hc 6, hc 7, hc 8, hc 9⟩
  refine bodyPost_ret (results_zone rfl _ _ rfl HF) rfl ?_
  exact ⟨_, rfl, b, HY⟩
theorem ZAt.mono {w : World} {B B' : Nat} {A A' : Option Addr} {L : List Sh} {Y : List Yr} (h : ZAt w B A A' L Y) (hB : B ≤ B') : ZAt w B' A A' L Y :=
  ⟨fun k hk => by obtain ⟨ad, e, hb, r⟩ := h.s k hk; exact ⟨ad, e, Nat.lt_of_lt_of_le hb hB, r⟩, fun k hk => by obtain ⟨ad, e, hb, r⟩ := h.y k hk; exact ⟨ad, e, Nat.lt_of_lt_of_le hb hB, r⟩, h.l, h.l'⟩
theorem mid_may : MayZ 3600 [] [mid0, mid1] 1996 := by
  refine ⟨by unfold OffOk; omega, ⟨⟨fun k h => by simp at h, fun k h => by simp at h⟩, by simp⟩, .inr ⟨mid0, mid1, rfl, by omega, by omega, ⟨⟨by decide, by decide, by decide, by decide, by decide, by decide, by decide, by decide, by decide⟩, ⟨by decide, by decide, by decide, by decide, by decide, by decide, by decide, by decide, by decide⟩, by decide, by decide⟩, fun k h => by simp at h⟩⟩
theorem mid_next (u : Int) (h1 : Civ.fst 2026 ≤ u / 86400) (h2 : u / 86400 < Civ.fst 2027) : Next (IsShift [] [mid0, mid1] 1996) u (nearL [] [mid0, mid1] 1996 2026) := near_next mid_may.ok (by omega) (by omega) h1 h2
theorem mid_list : nearL [] [mid0, mid1] 1996 2026 = [⟨1743296400, 7200⟩, ⟨1761440400, 3600⟩, ⟨1774746000, 7200⟩, ⟨1792890000, 3600⟩, ⟨1806195600, 7200⟩, ⟨1824944400, 3600⟩] := by kernel_rfl
theorem mid_local {l : Int} (h : Fine 3600 [] [mid0, mid1] 1996 1774746000 → IsOff 3600 (IsShift [] [mid0, mid1] 1996) 1774746000 (l - 1774746000)) : l = 1774753200 := by
  have h := h ⟨by unfold MayT; omega, mid_may⟩
  have n := (mid_next 1774746000 (by decide) (by decide)).bef
  rw [mid_list] at n
  have := h.uniq mid_may.ok.sep ⟨_, n, rfl⟩
  have e : offOf 3600 (lastS 1774746000 [⟨1743296400, 7200⟩, ⟨1761440400, 3600⟩, ⟨1774746000, 7200⟩, ⟨1792890000, 3600⟩, ⟨1806195600, 7200⟩, ⟨1824944400, 3600⟩]) = 7200 := by decide
  omega
theorem mid_utc {l v o : Int} {r : Option Sh} (h : UtcRes 3600 [] [mid0, mid1] 1996 l v) (hW : Within l) (h1 : Civ.fst 2026 ≤ (l - 64800) / 86400) (h2 : (l - 64800) / 86400 < Civ.fst 2027)
    (ho : offOf 3600 (lastS (l - 64800) [⟨1743296400, 7200⟩, ⟨1761440400, 3600⟩, ⟨1774746000, 7200⟩, ⟨1792890000, 3600⟩, ⟨1806195600, 7200⟩, ⟨1824944400, 3600⟩]) = o) (hr : firstS (l - 64800) [⟨1743296400, 7200⟩, ⟨1761440400, 3600⟩, ⟨1774746000, 7200⟩, ⟨1792890000, 3600⟩, ⟨1806195600, 7200⟩, ⟨1824944400, 3600⟩] = r) : v = utcOf l o r := by
  obtain ⟨a, q, ⟨i1, i2⟩, rfl⟩ := h.yes hW mid_may
  have n := mid_next _ h1 h2
  rw [mid_list] at n
  have e1 := i1.uniq mid_may.ok.sep ⟨_, n.bef, rfl⟩
  have e2 := i2.uniq mid_may.ok.sep n.aft
  rw [e1, e2, ho, hr]
theorem mid_utc_b {v : Int} (h : UtcRes 3600 [] [mid0, mid1] 1996 1774751400 v) : v = 1774747800 := by
  rw [mid_utc (o := 3600) (r := some ⟨1774746000, 7200⟩) h (by unfold Within; omega) (by decide) (by decide) (by decide) (by decide)]
  decide
theorem mid_utc_c {v : Int} (h : UtcRes 3600 [] [mid0, mid1] 1996 1792895400 v) : v = 1792888200 := by
  rw [mid_utc (o := 7200) (r := some ⟨1792890000, 3600⟩) h (by unfold Within; omega) (by decide) (by decide) (by decide) (by decide)]
  decide
set_option maxRecDepth 100000 in
set_option maxHeartbeats 4000000 in
theorem first_any (w : World) : Calls Try.prog 12 #[] w fun e w' => e = .returned (.bool true) ∧ Below w.heap.size w w' := by
  have hm := mayZB_yes mid_may
  go_enter Try.func12, Try.ntmps12
  go_wp2_with fail
  refine (middle_any w).mono ?_
  rintro e w1 ⟨g, rfl, b1, Y1⟩
  go_wp2_with fail
  have b := b1.alloc b1.size (zo 3600 none 0 0 (some ⟨g, 0, none⟩) 2 2 1996)
  have HB := Boxed.new_ (bs := 3600) (A := none) (n := 0) (c := 0) (A' := some ⟨g, 0, none⟩) (n' := 2) (c' := 2) (fr := 1996) w1
  have hz : ZAt (w1.alloc (zo 3600 none 0 0 (some ⟨g, 0, none⟩) 2 2 1996)) w1.heap.size none (some ⟨g, 0, none⟩) [] [mid0, mid1] := ⟨fun k h => by simp at h, Y1.below ((Below.refl _ _).alloc (Nat.le_refl _) _), by simp, by simp [maxLen]⟩
  have hB : w1.heap.size ≤ (w1.alloc (zo 3600 none 0 0 (some ⟨g, 0, none⟩) 2 2 1996)).heap.size := by simp
  generalize w1.alloc (zo 3600 none 0 0 (some ⟨g, 0, none⟩) 2 2 1996) = w2 at b HB hz hB ⊢
  refine (parse_a _).mono ?_
  rintro e w3 ⟨rfl, rfl⟩
  go_wp2_with fail
  refine (parse_b _).mono ?_
  rintro e w3 ⟨rfl, rfl⟩
  go_wp2_with fail
  refine (parse_c _).mono ?_
  rintro e w3 ⟨rfl, rfl⟩
  go_wp2_with fail
  obtain ⟨p, hp⟩ : ∃ p, p = w1.heap.size := ⟨_, rfl⟩
  obtain ⟨B, hBB⟩ : ∃ B, B = w1.heap.size := ⟨_, rfl⟩
  rw [← hp] at HB ⊢
  rw [← hBB] at hz hB
  clear hp hBB Y1
  replace hz : ZAt w2.drew B none (some ⟨g, 0, none⟩) [] [mid0, mid1] := ⟨hz.s, hz.y, hz.l, hz.l'⟩
  replace HB := HB.drew
  replace b := b.drew
  replace hB : B ≤ w2.drew.heap.size := hB
  have lt := HB.lt
  have hw := b.size
  refine wp_region_held_drew (S := fun w9 => Boxed w9 p 3600 none 0 0 (some ⟨g, 0, none⟩) 2 2 1996) (by kernel_rfl) HB (fun _ => ?_)
  refine wpAnyH_take (i := 0) (oi := { dst := some 21, op := Op.load 25 (Operand.tmp 1), type := 25, pos := "law.go:23", after := #[], guard := none }) (v := ?_) rfl (by kernel_rfl) (by kernel_rfl) (by kernel_rfl) (fun _ _ _ h => h) (Or.inl ⟨by rfl, ?_⟩) (by trivial) ?_
  rotate_left
  (focus (intro w hSw; obtain ⟨_, c0, c1, c2, c3⟩ := hSw; go_simp <;> with_reducible rfl))
  try simp only [Act.put, List.setIfInBounds_toArray, List.set_cons_zero, List.set_cons_succ]
  refine wpAnyH_ready (rs := [1]) (by kernel_rfl) (by simp) ?_
  refine AllReadyH.cons (o := { dst := some 22, op := Op.call { callee := Callee.value (Operand.func 18), args := #[Operand.tmp 21], argTypes := #[25] }, type := 4, pos := "law.go:23", after := #[{ on := 0, ground := Ground.data }], guard := none }) rfl (fun K hK => ?_) AllReadyH.nil
  go_simp
  refine (mayZone_any 3600 none 0 _ 2 1996 [] [mid0, mid1] B _ hz.s hz.y hB hz.l hz.l').mono ?_
  rintro e w3 ⟨rfl, bb⟩
  have hz := hz.below (bb.mono hB)
  replace HB := HB.below bb lt
  have b := b.trans (bb.mono hw)
  replace hw := b.size
  replace hB := Nat.le_trans hB bb.size
  replace lt := HB.lt
  clear bb
  rw [hm]
  go_wp2_with fail
  refine hK.out _ _ HB (fun _ => ?_)
  clear hK K
  try simp only [Act.put, List.setIfInBounds_toArray, List.set_cons_zero, List.set_cons_succ]
  refine wpAnyH_take (i := 2) (oi := { dst := some 23, op := Op.move (Operand.tmp 22), type := 4, pos := "law.go:23", after := #[{ on := 1, ground := Ground.data }, { on := 1, ground := Ground.chain }], guard := none }) (v := ?_) rfl (by kernel_rfl) (by kernel_rfl) (by kernel_rfl) (fun _ _ _ h => h) (Or.inl ⟨by rfl, ?_⟩) (by trivial) ?_
  rotate_left
  (focus (intro w hSw; obtain ⟨_, c0, c1, c2, c3⟩ := hSw; go_simp <;> with_reducible rfl))
  try simp only [Act.put, List.setIfInBounds_toArray, List.set_cons_zero, List.set_cons_succ]
  refine wpAnyH_take (i := 3) (oi := { dst := some 24, op := Op.load 25 (Operand.tmp 1), type := 25, pos := "law.go:23", after := #[{ on := 2, ground := Ground.guard }], guard := some (2, true) }) (v := ?_) rfl (by kernel_rfl) (by kernel_rfl) (by kernel_rfl) (fun _ _ _ h => h) (Or.inl ⟨by rfl, ?_⟩) (by trivial) ?_
  rotate_left
  (focus (intro w hSw; obtain ⟨_, c0, c1, c2, c3⟩ := hSw; go_simp <;> with_reducible rfl))
  try simp only [Act.put, List.setIfInBounds_toArray, List.set_cons_zero, List.set_cons_succ]
  refine wpAnyH_take (i := 4) (oi := { dst := some 25, op := Op.move (Operand.tmp 2), type := 3, pos := "law.go:23", after := #[{ on := 2, ground := Ground.guard }], guard := some (2, true) }) (v := ?_) rfl (by kernel_rfl) (by kernel_rfl) (by kernel_rfl) (fun _ _ _ h => h) (Or.inl ⟨by rfl, ?_⟩) (by trivial) ?_
  rotate_left
  (focus (intro w hSw; obtain ⟨_, c0, c1, c2, c3⟩ := hSw; go_simp <;> with_reducible rfl))
  try simp only [Act.put, List.setIfInBounds_toArray, List.set_cons_zero, List.set_cons_succ]
  refine wpAnyH_take (i := 6) (oi := { dst := some 27, op := Op.move (Operand.tmp 2), type := 3, pos := "law.go:23", after := #[{ on := 2, ground := Ground.guard }], guard := some (2, true) }) (v := ?_) rfl (by kernel_rfl) (by kernel_rfl) (by kernel_rfl) (fun _ _ _ h => h) (Or.inl ⟨by rfl, ?_⟩) (by trivial) ?_
  rotate_left
  (focus (intro w hSw; obtain ⟨_, c0, c1, c2, c3⟩ := hSw; go_simp <;> with_reducible rfl))
  try simp only [Act.put, List.setIfInBounds_toArray, List.set_cons_zero, List.set_cons_succ]
  refine wpAnyH_take (i := 7) (oi := { dst := some 28, op := Op.binOp BinOp.add 3 (Operand.tmp 27) (Operand.const (Value.int IntKind.i64 7200)) 3, type := 3, pos := "law.go:23", after := #[{ on := 6, ground := Ground.data }, { on := 2, ground := Ground.guard }], guard := some (2, true) }) (v := ?_) rfl (by kernel_rfl) (by kernel_rfl) (by kernel_rfl) (fun _ _ _ h => h) (Or.inl ⟨by rfl, ?_⟩) (by trivial) ?_
  rotate_left
  (focus (intro w hSw; obtain ⟨_, c0, c1, c2, c3⟩ := hSw; go_simp <;> with_reducible rfl))
  try simp only [Act.put, List.setIfInBounds_toArray, List.set_cons_zero, List.set_cons_succ]
  refine wpAnyH_ready (rs := [5]) (by kernel_rfl) (by simp) ?_
  refine AllReadyH.cons (o := { dst := some 26, op := Op.call { callee := Callee.value (Operand.func 22), args := #[Operand.tmp 24, Operand.tmp 25], argTypes := #[25, 3] }, type := 3, pos := "law.go:23", after := #[{ on := 3, ground := Ground.data }, { on := 4, ground := Ground.data }, { on := 2, ground := Ground.chain }, { on := 2, ground := Ground.guard }], guard := some (2, true) }) rfl (fun K hK => ?_) AllReadyH.nil
  go_simp
  refine (local_any (L := []) (Y := [mid0, mid1]) hz hB).mono ?_
  rintro e w4 ⟨l1, rfl, bb, h1, -⟩
  have hz := hz.below (bb.mono hB)
  replace HB := HB.below bb lt
  have b := b.trans (bb.mono hw)
  replace hw := b.size
  replace hB := Nat.le_trans hB bb.size
  replace lt := HB.lt
  clear bb
  obtain rfl := mid_local h1
  clear h1
  go_wp2_with fail
  refine hK.out _ _ HB (fun _ => ?_)
  clear hK K
  try simp only [Act.put, List.setIfInBounds_toArray, List.set_cons_zero, List.set_cons_succ]
  refine wpAnyH_take (i := 8) (oi := { dst := some 29, op := Op.binOp BinOp.eql 3 (Operand.tmp 26) (Operand.tmp 28) 3, type := 4, pos := "law.go:23", after := #[{ on := 5, ground := Ground.data }, { on := 7, ground := Ground.data }, { on := 2, ground := Ground.guard }], guard := some (2, true) }) (v := ?_) rfl (by kernel_rfl) (by kernel_rfl) (by kernel_rfl) (fun _ _ _ h => h) (Or.inl ⟨by rfl, ?_⟩) (by trivial) ?_
  rotate_left
  (focus (intro w hSw; obtain ⟨_, c0, c1, c2, c3⟩ := hSw; go_simp <;> with_reducible rfl))
  try simp only [Act.put, List.setIfInBounds_toArray, List.set_cons_zero, List.set_cons_succ]
  refine wpAnyH_take (i := 9) (oi := { dst := some 30, op := Op.pick (Operand.tmp 23) (Operand.tmp 29) (Operand.const (Value.bool false)), type := 4, pos := "law.go:23", after := #[{ on := 2, ground := Ground.data }, { on := 8, ground := Ground.data }], guard := none }) (v := ?_) rfl (by kernel_rfl) (by kernel_rfl) (by kernel_rfl) (fun _ _ _ h => h) (Or.inl ⟨by rfl, ?_⟩) (by trivial) ?_
  rotate_left
  (focus (intro w hSw; obtain ⟨_, c0, c1, c2, c3⟩ := hSw; go_simp <;> with_reducible rfl))
  try simp only [Act.put, List.setIfInBounds_toArray, List.set_cons_zero, List.set_cons_succ]
  refine wpAnyH_take (i := 10) (oi := { dst := some 31, op := Op.move (Operand.tmp 30), type := 4, pos := "law.go:23", after := #[{ on := 9, ground := Ground.data }, { on := 5, ground := Ground.chain }], guard := none }) (v := ?_) rfl (by kernel_rfl) (by kernel_rfl) (by kernel_rfl) (fun _ _ _ h => h) (Or.inl ⟨by rfl, ?_⟩) (by trivial) ?_
  rotate_left
  (focus (intro w hSw; obtain ⟨_, c0, c1, c2, c3⟩ := hSw; go_simp <;> with_reducible rfl))
  try simp only [Act.put, List.setIfInBounds_toArray, List.set_cons_zero, List.set_cons_succ]
  refine wpAnyH_take (i := 11) (oi := { dst := some 32, op := Op.load 25 (Operand.tmp 1), type := 25, pos := "law.go:23", after := #[{ on := 10, ground := Ground.guard }], guard := some (10, true) }) (v := ?_) rfl (by kernel_rfl) (by kernel_rfl) (by kernel_rfl) (fun _ _ _ h => h) (Or.inl ⟨by rfl, ?_⟩) (by trivial) ?_
  rotate_left
  (focus (intro w hSw; obtain ⟨_, c0, c1, c2, c3⟩ := hSw; go_simp <;> with_reducible rfl))
  try simp only [Act.put, List.setIfInBounds_toArray, List.set_cons_zero, List.set_cons_succ]
  refine wpAnyH_take (i := 12) (oi := { dst := some 33, op := Op.move (Operand.tmp 4), type := 3, pos := "law.go:23", after := #[{ on := 10, ground := Ground.guard }], guard := some (10, true) }) (v := ?_) rfl (by kernel_rfl) (by kernel_rfl) (by kernel_rfl) (fun _ _ _ h => h) (Or.inl ⟨by rfl, ?_⟩) (by trivial) ?_
  rotate_left
  (focus (intro w hSw; obtain ⟨_, c0, c1, c2, c3⟩ := hSw; go_simp <;> with_reducible rfl))
  try simp only [Act.put, List.setIfInBounds_toArray, List.set_cons_zero, List.set_cons_succ]
  refine wpAnyH_take (i := 14) (oi := { dst := some 35, op := Op.move (Operand.tmp 4), type := 3, pos := "law.go:23", after := #[{ on := 10, ground := Ground.guard }], guard := some (10, true) }) (v := ?_) rfl (by kernel_rfl) (by kernel_rfl) (by kernel_rfl) (fun _ _ _ h => h) (Or.inl ⟨by rfl, ?_⟩) (by trivial) ?_
  rotate_left
  (focus (intro w hSw; obtain ⟨_, c0, c1, c2, c3⟩ := hSw; go_simp <;> with_reducible rfl))
  try simp only [Act.put, List.setIfInBounds_toArray, List.set_cons_zero, List.set_cons_succ]
  refine wpAnyH_take (i := 15) (oi := { dst := some 36, op := Op.binOp BinOp.sub 3 (Operand.tmp 35) (Operand.const (Value.int IntKind.i64 3600)) 3, type := 3, pos := "law.go:23", after := #[{ on := 14, ground := Ground.data }, { on := 10, ground := Ground.guard }], guard := some (10, true) }) (v := ?_) rfl (by kernel_rfl) (by kernel_rfl) (by kernel_rfl) (fun _ _ _ h => h) (Or.inl ⟨by rfl, ?_⟩) (by trivial) ?_
  rotate_left
  (focus (intro w hSw; obtain ⟨_, c0, c1, c2, c3⟩ := hSw; go_simp <;> with_reducible rfl))
  try simp only [Act.put, List.setIfInBounds_toArray, List.set_cons_zero, List.set_cons_succ]
  refine wpAnyH_ready (rs := [13]) (by kernel_rfl) (by simp) ?_
  refine AllReadyH.cons (o := { dst := some 34, op := Op.call { callee := Callee.value (Operand.func 26), args := #[Operand.tmp 32, Operand.tmp 33], argTypes := #[25, 3] }, type := 3, pos := "law.go:23", after := #[{ on := 11, ground := Ground.data }, { on := 12, ground := Ground.data }, { on := 10, ground := Ground.chain }, { on := 10, ground := Ground.guard }], guard := some (10, true) }) rfl (fun K hK => ?_) AllReadyH.nil
  go_simp
  refine (utc_any (L := []) (Y := [mid0, mid1]) hz hB).mono ?_
  rintro e w5 ⟨l2, rfl, bb, h1⟩
  have hz := hz.below (bb.mono hB)
  replace HB := HB.below bb lt
  have b := b.trans (bb.mono hw)
  replace hw := b.size
  replace hB := Nat.le_trans hB bb.size
  replace lt := HB.lt
  clear bb
  obtain rfl := mid_utc_b h1
  clear h1
  go_wp2_with fail
  refine hK.out _ _ HB (fun _ => ?_)
  clear hK K
  try simp only [Act.put, List.setIfInBounds_toArray, List.set_cons_zero, List.set_cons_succ]
  refine wpAnyH_take (i := 16) (oi := { dst := some 37, op := Op.binOp BinOp.eql 3 (Operand.tmp 34) (Operand.tmp 36) 3, type := 4, pos := "law.go:23", after := #[{ on := 13, ground := Ground.data }, { on := 15, ground := Ground.data }, { on := 10, ground := Ground.guard }], guard := some (10, true) }) (v := ?_) rfl (by kernel_rfl) (by kernel_rfl) (by kernel_rfl) (fun _ _ _ h => h) (Or.inl ⟨by rfl, ?_⟩) (by trivial) ?_
  rotate_left
  (focus (intro w hSw; obtain ⟨_, c0, c1, c2, c3⟩ := hSw; go_simp <;> with_reducible rfl))
  try simp only [Act.put, List.setIfInBounds_toArray, List.set_cons_zero, List.set_cons_succ]
  refine wpAnyH_take (i := 17) (oi := { dst := some 38, op := Op.pick (Operand.tmp 31) (Operand.tmp 37) (Operand.const (Value.bool false)), type := 4, pos := "law.go:23", after := #[{ on := 10, ground := Ground.data }, { on := 16, ground := Ground.data }], guard := none }) (v := ?_) rfl (by kernel_rfl) (by kernel_rfl) (by kernel_rfl) (fun _ _ _ h => h) (Or.inl ⟨by rfl, ?_⟩) (by trivial) ?_
  rotate_left
  (focus (intro w hSw; obtain ⟨_, c0, c1, c2, c3⟩ := hSw; go_simp <;> with_reducible rfl))
  try simp only [Act.put, List.setIfInBounds_toArray, List.set_cons_zero, List.set_cons_succ]
  refine wpAnyH_take (i := 18) (oi := { dst := some 39, op := Op.move (Operand.tmp 38), type := 4, pos := "law.go:23", after := #[{ on := 17, ground := Ground.data }, { on := 13, ground := Ground.chain }], guard := none }) (v := ?_) rfl (by kernel_rfl) (by kernel_rfl) (by kernel_rfl) (fun _ _ _ h => h) (Or.inl ⟨by rfl, ?_⟩) (by trivial) ?_
  rotate_left
  (focus (intro w hSw; obtain ⟨_, c0, c1, c2, c3⟩ := hSw; go_simp <;> with_reducible rfl))
  try simp only [Act.put, List.setIfInBounds_toArray, List.set_cons_zero, List.set_cons_succ]
  refine wpAnyH_take (i := 19) (oi := { dst := some 40, op := Op.load 25 (Operand.tmp 1), type := 25, pos := "law.go:23", after := #[{ on := 18, ground := Ground.guard }], guard := some (18, true) }) (v := ?_) rfl (by kernel_rfl) (by kernel_rfl) (by kernel_rfl) (fun _ _ _ h => h) (Or.inl ⟨by rfl, ?_⟩) (by trivial) ?_
  rotate_left
  (focus (intro w hSw; obtain ⟨_, c0, c1, c2, c3⟩ := hSw; go_simp <;> with_reducible rfl))
  try simp only [Act.put, List.setIfInBounds_toArray, List.set_cons_zero, List.set_cons_succ]
  refine wpAnyH_take (i := 20) (oi := { dst := some 41, op := Op.move (Operand.tmp 6), type := 3, pos := "law.go:23", after := #[{ on := 18, ground := Ground.guard }], guard := some (18, true) }) (v := ?_) rfl (by kernel_rfl) (by kernel_rfl) (by kernel_rfl) (fun _ _ _ h => h) (Or.inl ⟨by rfl, ?_⟩) (by trivial) ?_
  rotate_left
  (focus (intro w hSw; obtain ⟨_, c0, c1, c2, c3⟩ := hSw; go_simp <;> with_reducible rfl))
  try simp only [Act.put, List.setIfInBounds_toArray, List.set_cons_zero, List.set_cons_succ]
  refine wpAnyH_take (i := 22) (oi := { dst := some 43, op := Op.move (Operand.tmp 6), type := 3, pos := "law.go:23", after := #[{ on := 18, ground := Ground.guard }], guard := some (18, true) }) (v := ?_) rfl (by kernel_rfl) (by kernel_rfl) (by kernel_rfl) (fun _ _ _ h => h) (Or.inl ⟨by rfl, ?_⟩) (by trivial) ?_
  rotate_left
  (focus (intro w hSw; obtain ⟨_, c0, c1, c2, c3⟩ := hSw; go_simp <;> with_reducible rfl))
  try simp only [Act.put, List.setIfInBounds_toArray, List.set_cons_zero, List.set_cons_succ]
  refine wpAnyH_take (i := 23) (oi := { dst := some 44, op := Op.binOp BinOp.sub 3 (Operand.tmp 43) (Operand.const (Value.int IntKind.i64 7200)) 3, type := 3, pos := "law.go:23", after := #[{ on := 22, ground := Ground.data }, { on := 18, ground := Ground.guard }], guard := some (18, true) }) (v := ?_) rfl (by kernel_rfl) (by kernel_rfl) (by kernel_rfl) (fun _ _ _ h => h) (Or.inl ⟨by rfl, ?_⟩) (by trivial) ?_
  rotate_left
  (focus (intro w hSw; obtain ⟨_, c0, c1, c2, c3⟩ := hSw; go_simp <;> with_reducible rfl))
  try simp only [Act.put, List.setIfInBounds_toArray, List.set_cons_zero, List.set_cons_succ]
  refine wpAnyH_ready (rs := [21]) (by kernel_rfl) (by simp) ?_
  refine AllReadyH.cons (o := { dst := some 42, op := Op.call { callee := Callee.value (Operand.func 26), args := #[Operand.tmp 40, Operand.tmp 41], argTypes := #[25, 3] }, type := 3, pos := "law.go:23", after := #[{ on := 19, ground := Ground.data }, { on := 20, ground := Ground.data }, { on := 18, ground := Ground.chain }, { on := 18, ground := Ground.guard }], guard := some (18, true) }) rfl (fun K hK => ?_) AllReadyH.nil
  go_simp
  refine (utc_any (L := []) (Y := [mid0, mid1]) hz hB).mono ?_
  rintro e w6 ⟨l3, rfl, bb, h1⟩
  have hz := hz.below (bb.mono hB)
  replace HB := HB.below bb lt
  have b := b.trans (bb.mono hw)
  replace hw := b.size
  replace hB := Nat.le_trans hB bb.size
  replace lt := HB.lt
  clear bb
  obtain rfl := mid_utc_c h1
  clear h1
  go_wp2_with fail
  refine hK.out _ _ HB (fun _ => ?_)
  clear hK K
  try simp only [Act.put, List.setIfInBounds_toArray, List.set_cons_zero, List.set_cons_succ]
  refine wpAnyH_take (i := 24) (oi := { dst := some 45, op := Op.binOp BinOp.eql 3 (Operand.tmp 42) (Operand.tmp 44) 3, type := 4, pos := "law.go:23", after := #[{ on := 21, ground := Ground.data }, { on := 23, ground := Ground.data }, { on := 18, ground := Ground.guard }], guard := some (18, true) }) (v := ?_) rfl (by kernel_rfl) (by kernel_rfl) (by kernel_rfl) (fun _ _ _ h => h) (Or.inl ⟨by rfl, ?_⟩) (by trivial) ?_
  rotate_left
  (focus (intro w hSw; obtain ⟨_, c0, c1, c2, c3⟩ := hSw; go_simp <;> with_reducible rfl))
  try simp only [Act.put, List.setIfInBounds_toArray, List.set_cons_zero, List.set_cons_succ]
  refine wpAnyH_take (i := 25) (oi := { dst := some 46, op := Op.pick (Operand.tmp 39) (Operand.tmp 45) (Operand.const (Value.bool false)), type := 4, pos := "law.go:23", after := #[{ on := 18, ground := Ground.data }, { on := 24, ground := Ground.data }], guard := none }) (v := ?_) rfl (by kernel_rfl) (by kernel_rfl) (by kernel_rfl) (fun _ _ _ h => h) (Or.inl ⟨by rfl, ?_⟩) (by trivial) ?_
  rotate_left
  (focus (intro w hSw; obtain ⟨_, c0, c1, c2, c3⟩ := hSw; go_simp <;> with_reducible rfl))
  try simp only [Act.put, List.setIfInBounds_toArray, List.set_cons_zero, List.set_cons_succ]
  refine wpAnyH_take (i := 26) (oi := { dst := some 47, op := Op.move (Operand.tmp 46), type := 4, pos := "law.go:23", after := #[{ on := 25, ground := Ground.data }, { on := 21, ground := Ground.chain }], guard := none }) (v := ?_) rfl (by kernel_rfl) (by kernel_rfl) (by kernel_rfl) (fun _ _ _ h => h) (Or.inl ⟨by rfl, ?_⟩) (by trivial) ?_
  rotate_left
  (focus (intro w hSw; obtain ⟨_, c0, c1, c2, c3⟩ := hSw; go_simp <;> with_reducible rfl))
  try simp only [Act.put, List.setIfInBounds_toArray, List.set_cons_zero, List.set_cons_succ]
  refine wpAnyH_take (i := 27) (oi := { dst := some 48, op := Op.load 25 (Operand.tmp 1), type := 25, pos := "law.go:23", after := #[{ on := 26, ground := Ground.guard }], guard := some (26, true) }) (v := ?_) rfl (by kernel_rfl) (by kernel_rfl) (by kernel_rfl) (fun _ _ _ h => h) (Or.inl ⟨by rfl, ?_⟩) (by trivial) ?_
  rotate_left
  (focus (intro w hSw; obtain ⟨_, c0, c1, c2, c3⟩ := hSw; go_simp <;> with_reducible rfl))
  try simp only [Act.put, List.setIfInBounds_toArray, List.set_cons_zero, List.set_cons_succ]
  refine wpAnyH_ready (rs := [28]) (by kernel_rfl) (by simp) ?_
  refine AllReadyH.cons (o := { dst := some 49, op := Op.call { callee := Callee.value (Operand.func 29), args := #[], argTypes := #[] }, type := 25, pos := "law.go:23", after := #[{ on := 26, ground := Ground.chain }, { on := 26, ground := Ground.guard }], guard := some (26, true) }) rfl (fun K hK => ?_) AllReadyH.nil
  go_simp
  refine (middle_any _).mono ?_
  rintro e w7 ⟨g2, rfl, bb, Y2⟩
  have hz := hz.below (bb.mono hB)
  replace HB := HB.below bb lt
  have b := b.trans (bb.mono hw)
  replace hw := b.size
  replace lt := HB.lt
  have hz2 : ZAt w7 w7.heap.size none (some ⟨g2, 0, none⟩) [] [mid0, mid1] := ⟨fun k h => by simp at h, Y2, by simp, by simp [maxLen]⟩
  have hz := hz.mono (Nat.le_trans hB bb.size)
  clear bb
  go_wp2_with fail
  refine hK.out _ _ HB (fun _ => ?_)
  clear hK K
  try simp only [Act.put, List.setIfInBounds_toArray, List.set_cons_zero, List.set_cons_succ]
  refine wpAnyH_ready (rs := [29]) (by kernel_rfl) (by simp) ?_
  refine AllReadyH.cons (o := { dst := some 50, op := Op.call { callee := Callee.value (Operand.func 24), args := #[Operand.tmp 48, Operand.tmp 49], argTypes := #[25, 25] }, type := 4, pos := "law.go:23", after := #[{ on := 27, ground := Ground.data }, { on := 28, ground := Ground.data }, { on := 28, ground := Ground.chain }, { on := 26, ground := Ground.guard }], guard := some (26, true) }) rfl (fun K hK => ?_) AllReadyH.nil
  go_simp
  refine (same_any (L := []) (Y := [mid0, mid1]) (L2 := []) (Y2 := [mid0, mid1]) hz hz2 (Nat.le_refl _)).mono ?_
  rintro e w8 ⟨rfl, bb⟩
  replace HB := HB.below bb lt
  have b := b.trans (bb.mono hw)
  clear bb
  rw [show sameB 3600 [] [mid0, mid1] 1996 3600 [] [mid0, mid1] 1996 = true by simp [sameB]]
  go_wp2_with fail
  refine hK.out _ _ HB (fun _ => ?_)
  clear hK K
  try simp only [Act.put, List.setIfInBounds_toArray, List.set_cons_zero, List.set_cons_succ]
  refine wpAnyH_take (i := 30) (oi := { dst := some 51, op := Op.pick (Operand.tmp 47) (Operand.tmp 50) (Operand.const (Value.bool false)), type := 4, pos := "law.go:23", after := #[{ on := 26, ground := Ground.data }, { on := 29, ground := Ground.data }], guard := none }) (v := ?_) rfl (by kernel_rfl) (by kernel_rfl) (by kernel_rfl) (fun _ _ _ h => h) (Or.inl ⟨by rfl, ?_⟩) (by trivial) ?_
  rotate_left
  (focus (intro w hSw; obtain ⟨_, c0, c1, c2, c3⟩ := hSw; go_simp <;> with_reducible rfl))
  try simp only [Act.put, List.setIfInBounds_toArray, List.set_cons_zero, List.set_cons_succ]
  refine wpAnyH_take (i := 31) (oi := { dst := some 0, op := Op.assign (Operand.tmp 51), type := 4, pos := "law.go:23", after := #[{ on := 30, ground := Ground.data }, { on := 29, ground := Ground.chain }, { on := 0, ground := Ground.phase }, { on := 1, ground := Ground.phase }, { on := 2, ground := Ground.phase }, { on := 3, ground := Ground.phase }, { on := 4, ground := Ground.phase }, { on := 5, ground := Ground.phase }, { on := 6, ground := Ground.phase }, { on := 7, ground := Ground.phase }, { on := 8, ground := Ground.phase }, { on := 9, ground := Ground.phase }, { on := 10, ground := Ground.phase }, { on := 11, ground := Ground.phase }, { on := 12, ground := Ground.phase }, { on := 13, ground := Ground.phase }, { on := 14, ground := Ground.phase }, { on := 15, ground := Ground.phase }, { on := 16, ground := Ground.phase }, { on := 17, ground := Ground.phase }, { on := 18, ground := Ground.phase }, { on := 19, ground := Ground.phase }, { on := 20, ground := Ground.phase }, { on := 21, ground := Ground.phase }, { on := 22, ground := Ground.phase }, { on := 23, ground := Ground.phase }, { on := 24, ground := Ground.phase }, { on := 25, ground := Ground.phase }, { on := 26, ground := Ground.phase }, { on := 27, ground := Ground.phase }, { on := 28, ground := Ground.phase }, { on := 29, ground := Ground.phase }, { on := 30, ground := Ground.phase }], guard := none }) (v := ?_) rfl (by kernel_rfl) (by kernel_rfl) (by kernel_rfl) (fun _ _ _ h => h) (Or.inl ⟨by rfl, ?_⟩) (by trivial) ?_
  rotate_left
  (focus (intro w hSw; obtain ⟨_, c0, c1, c2, c3⟩ := hSw; go_simp <;> with_reducible rfl))
  try simp only [Act.put, List.setIfInBounds_toArray, List.set_cons_zero, List.set_cons_succ]
  refine wpAnyH_done (by kernel_rfl) ?_ _
  go_wp2_with fail
  go_ret
  exact ⟨rfl, b⟩
end Go.Proofs.Ytbnchbcdgffkaaa
