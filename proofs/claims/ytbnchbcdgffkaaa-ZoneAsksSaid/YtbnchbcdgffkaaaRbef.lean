/- vokref1.Before, After. -/
import Derived.Test.YtbnchbcdgffkaaaRmay
import Derived.Test.YtbnchbcdgffkaaaRnear
namespace Go.Proofs.Ytbnchbcdgffkaaa
open Go.RowKit
set_option linter.unusedVariables false
theorem Next.bef2 {P : Sh → Prop} {u : Int} {N : List Sh} {r : Option Sh} (h : Next P u N) (b : IsBef (fun s => s ∈ N) u r) : IsBef P u r := by
  cases r with
  | none =>
    intro t ht
    by_cases q : u < t.at_
    · exact q
    · obtain ⟨s, h1, h2, _⟩ := h.lo t ht (by omega)
      have := b s h1
      omega
  | some x =>
    refine ⟨h.sub _ b.1, b.2.1, fun t ht hu => ?_⟩
    obtain ⟨s, h1, h2, h3⟩ := h.lo t ht hu
    have := b.2.2 s h1 h2
    omega
theorem Next.aft2 {P : Sh → Prop} {u : Int} {N : List Sh} {r : Option Sh} (h : Next P u N) (b : IsAft (fun s => s ∈ N) u r) : IsAft P u r := by
  cases r with
  | none =>
    intro t ht
    by_cases q : u < t.at_
    · obtain ⟨s, h1, h2, _⟩ := h.hi t ht q
      have := b s h1
      omega
    · omega
  | some x =>
    refine ⟨h.sub _ b.1, b.2.1, fun t ht hu => ?_⟩
    obtain ⟨s, h1, h2, h3⟩ := h.hi t ht hu
    have := b.2.2 s h1 h2
    omega
theorem up_le {N : List Sh} (h : Up N) {i k : Nat} (hi : i < N.length) (hk : k < N.length) (hik : i ≤ k) : N[i].at_ ≤ N[k].at_ := by
  rcases Nat.lt_or_eq_of_le hik with q | rfl
  · exact Int.le_of_lt ((List.pairwise_iff_getElem.mp h) i k hi hk q)
  · exact Int.le_refl _
theorem bef_hit {N : List Sh} {u : Int} {k : Nat} (hN : Up N) (hk : k < N.length) (hu : N[k].at_ ≤ u) (hall : ∀ i (h : i < N.length), k + 1 ≤ i → ¬ N[i].at_ ≤ u) : IsBef (fun s => s ∈ N) u (some N[k]) :=
  ⟨List.getElem_mem hk, hu, fun t ht h => by
    obtain ⟨i, hi, rfl⟩ := List.getElem_of_mem ht
    by_cases q : k + 1 ≤ i
    · exact absurd h (hall i hi q)
    · exact up_le hN hi hk (by omega)⟩
theorem bef_miss {N : List Sh} {u : Int} (hall : ∀ i (h : i < N.length), 0 ≤ i → ¬ N[i].at_ ≤ u) : IsBef (fun s => s ∈ N) u none := fun t ht => by
  obtain ⟨i, hi, rfl⟩ := List.getElem_of_mem ht
  have := hall i hi (Nat.zero_le _)
  omega
theorem aft_hit {N : List Sh} {u : Int} {k : Nat} (hN : Up N) (hk : k < N.length) (hu : u < N[k].at_) (hall : ∀ i (h : i < N.length), i < k → ¬ u < N[i].at_) : IsAft (fun s => s ∈ N) u (some N[k]) :=
  ⟨List.getElem_mem hk, hu, fun t ht h => by
    obtain ⟨i, hi, rfl⟩ := List.getElem_of_mem ht
    by_cases q : i < k
    · exact absurd h (hall i hi q)
    · exact up_le hN hk hi (by omega)⟩
theorem aft_miss {N : List Sh} {u : Int} (hall : ∀ i (h : i < N.length), i < N.length → ¬ u < N[i].at_) : IsAft (fun s => s ∈ N) u none := fun t ht => by
  obtain ⟨i, hi, rfl⟩ := List.getElem_of_mem ht
  have := hall i hi hi
  omega
theorem rnear_any (bs : Int) (A : Option Addr) (c : Nat) (A' : Option Addr) (c' : Nat) (fr u : Int) (L : List Sh) (Y : List Yr) (w : World) (hM : MayZ bs L Y fr) (hu : MayT u) (hz : ZAt w w.heap.size A A' L Y) :
    Calls Try.prog 34 #[zv bs A L.length c A' Y.length c' fr, .int .i64 u] w fun e w' => ∃ A1 c1 N, e = .returned (.slice A1 N.length c1) ∧ OwnS w' w.heap.size (.slice A1 N.length c1) N ∧ Below w.heap.size w w' ∧ N.length ≤ 1000 ∧ Next (IsShift L Y fr) u N := by
  rcases hM.yr with ⟨rfl, rfl⟩ | ⟨a, b, hF⟩
  · refine (rnear_none bs A c A' c' 0 u L w hM hu hz).mono ?_
    rintro e w' ⟨A1, c1, rfl, O, b⟩
    refine ⟨A1, c1, L, rfl, O, b, Nat.le_trans hM.sh.few (by decide), ?_⟩
    obtain ⟨u1, u2⟩ := hu
    have hU := acc_up hM.ok 0 0
    simp only [acc] at hU
    have e1 : ∀ {t : Sh}, IsShift L [] 0 t → t ∈ L := fun h => by
      rcases h with h | ⟨_, _, _, _, h, _⟩
      · exact h
      · cases h
    exact ⟨hU, fun s h => .inl h, fun t ht h => ⟨t, e1 ht, h, Int.le_refl _⟩, fun t ht h => ⟨t, e1 ht, h, Int.le_refl _⟩⟩
  · exact rnear_two bs A c A' c' fr u L Y w hM (by rw [hF.eq]; rfl) hu hz
set_option maxRecDepth 100000 in
set_option maxHeartbeats 4000000 in
theorem rbefore_any {bs : Int} {A : Option Addr} {c : Nat} {A' : Option Addr} {c' : Nat} {fr u : Int} {L : List Sh} {Y : List Yr} {B : Nat} {w : World} (hz : ZAt w B A A' L Y) (hB : B ≤ w.heap.size) :
    Calls Try.prog 15 #[zv bs A L.length c A' Y.length c' fr, .int .i64 u] w fun e w' => ∃ r, e = .returned (shv r) ∧ Below w.heap.size w w' ∧ (Fine bs L Y fr u → IsBef (IsShift L Y fr) u r) ∧ (¬ Fine bs L Y fr u → r = none) := by
  replace hz := hz.mono hB
  clear hB
  by_cases qm : MayZ bs L Y fr
  · have mt := mayZB_yes qm
    by_cases qt : MayT u
    · have tt := decide_eq_true qt
      go_enter Try.func15, Try.ntmps15
      go_wp2_with fail
      have bx := ((Below.refl w.heap.size w).alloc (Nat.le_refl _) (zo bs A L.length c A' Y.length c' fr)).alloc (by simp) (.cells #[.int .i64 0, .int .i64 0] 29)
      have HB : Boxed ((w.alloc (zo bs A L.length c A' Y.length c' fr)).alloc (.cells #[.int .i64 0, .int .i64 0] 29)) w.heap.size bs A L.length c A' Y.length c' fr := by
        refine ((Boxed.new_ w).below ((Below.refl (w.heap.size + 1) _).alloc (by simp) _) (by omega))
      have T1 : Two ((w.alloc (zo bs A L.length c A' Y.length c' fr)).alloc (.cells #[.int .i64 0, .int .i64 0] 29)) (w.heap.size + 1) 0 0 := Two.new_ _ _ _ _ (by simp)
      generalize (w.alloc (zo bs A L.length c A' Y.length c' fr)).alloc (.cells #[.int .i64 0, .int .i64 0] 29) = w3 at bx HB T1 ⊢
      have s : St w w3 w.heap.size bs A c A' c' fr L Y := ⟨bx, hz.below bx, HB⟩
      clear bx HB
      refine (rmayZone_any bs A c A' c' fr L Y _ w3 s.z s.le).mono ?_
      rintro e wz ⟨rfl, bb⟩
      rw [mt]
      replace T1 := T1.below bb T1.lt
      replace s := s.step bb
      clear bb
      obtain ⟨lt, c0, c1, c2, c3⟩ := s.cells
      go_wp2_with fail
      refine (rmay_any u _).mono ?_
      rintro e w9 ⟨rfl, rfl⟩
      rw [tt]
      go_wp2_with fail
      refine (rnear_any bs A c A' c' fr u L Y _ qm qt (s.z.mono s.le)).mono ?_
      rintro e wz ⟨A5, c5, N, rfl, O, bb, hN, hX⟩
      replace T1 := T1.below bb T1.lt
      replace s := s.step bb
      have ho := O.at_
      clear bb lt c0 c1 c2 c3 O
      have hX := Lib.hid hX
      go_wp2_with fail
      go_loopw [7] (fun kv wr => ∃ k : Nat, k ≤ N.length ∧ kv = .int .i64 ((k : Int) - 1) ∧ (∀ i (h : i < N.length), k ≤ i → ¬ N[i].at_ ≤ u) ∧ wr = wz) (fun kv _ => (intOf kv + 1).toNat)
      case atStart => exact ⟨N.length, Nat.le_refl _, rfl, fun i h h2 => absurd h2 (by omega), rfl⟩
      case round =>
        obtain ⟨k, hk, rfl, hall, rfl⟩ := hrel
        rcases Nat.eq_zero_or_pos k with k0 | k0
        · subst k0
          have hr := Lib.hid (hX.out.bef2 (bef_miss hall))
          clear hall
          have t10 := T1.c0
          have t11 := T1.c1
          have f10 := T1.free 0
          have f11 := T1.free 1
          go_wp2_with fail
          have T2 := T1.set 0 0
          have bb := (s.b.setCell (p := ⟨w.heap.size + 1, 0, none⟩) (by simp only; omega) (.int .i64 0)).setCell (p := ⟨w.heap.size + 1, 1, none⟩) (by simp only; omega) (.int .i64 0)
          refine bodyPost_ret (results_shift rfl _ _ rfl T2) rfl ?_
          exact ⟨none, rfl, bb, fun _ => hr.out, fun h => absurd ⟨qt, qm⟩ h⟩
        · have hj : k - 1 < N.length := by omega
          obtain ⟨ad, rfl, hbl, p0, p1⟩ := ho (k - 1) hj
          have z3 : ((k : Int) - 1).toNat = k - 1 := by omega
          have z4 : (0 : Int) ≤ (k : Int) - 1 := by omega
          have z5 : (k : Int) - 1 < (N.length : Int) := by omega
          have hhit := Lib.hid (fun h => hX.out.bef2 (bef_hit hX.out.up hj h (fun i hi h2 => hall i hi (by omega))))
          have hnx := Lib.hid (show ¬ N[k - 1].at_ ≤ u → ∀ i (h : i < N.length), k - 1 ≤ i → ¬ N[i].at_ ≤ u from fun q i hi h2 => by
            by_cases e : k ≤ i
            · exact hall i hi e
            · obtain rfl : i = k - 1 := by omega
              exact q)
          clear hall
          obtain ⟨P, hP⟩ : ∃ P : Sh, P = N[k - 1] := ⟨_, rfl⟩
          rw [← hP] at p0 p1 hhit hnx
          clear hP
          by_cases q : P.at_ ≤ u
          · have qt' := decide_eq_true q
            have t10 := T1.c0
            have t11 := T1.c1
            have f10 := T1.free 0
            have f11 := T1.free 1
            go_wp2_with fail
            have T2 := T1.set P.at_ P.off
            have bb := (s.b.setCell (p := ⟨w.heap.size + 1, 0, none⟩) (by simp only; omega) (.int .i64 P.at_)).setCell (p := ⟨w.heap.size + 1, 1, none⟩) (by simp only; omega) (.int .i64 P.off)
            refine bodyPost_ret (results_shift rfl _ _ rfl T2) rfl ?_
            exact ⟨some P, rfl, bb, fun _ => hhit.out q, fun h => absurd ⟨qt, qm⟩ h⟩
          · have qt' := decide_eq_false q
            have zw : IntKind.i64.wrap ((k : Int) - 1 - 1) = (k : Int) - 1 - 1 := wi64 (by omega) (by omega)
            go_wp2_with fail
            go_roundw
            case rel => exact ⟨k - 1, by omega, by congr 1; omega, hnx.out q, trivial⟩
            case measure => simp [intOf]; omega
    · have tt := decide_eq_false qt
      go_enter Try.func15, Try.ntmps15
      go_wp2_with fail
      have bx := ((Below.refl w.heap.size w).alloc (Nat.le_refl _) (zo bs A L.length c A' Y.length c' fr)).alloc (by simp) (.cells #[.int .i64 0, .int .i64 0] 29)
      have HB : Boxed ((w.alloc (zo bs A L.length c A' Y.length c' fr)).alloc (.cells #[.int .i64 0, .int .i64 0] 29)) w.heap.size bs A L.length c A' Y.length c' fr := by
        refine ((Boxed.new_ w).below ((Below.refl (w.heap.size + 1) _).alloc (by simp) _) (by omega))
      have T1 : Two ((w.alloc (zo bs A L.length c A' Y.length c' fr)).alloc (.cells #[.int .i64 0, .int .i64 0] 29)) (w.heap.size + 1) 0 0 := Two.new_ _ _ _ _ (by simp)
      generalize (w.alloc (zo bs A L.length c A' Y.length c' fr)).alloc (.cells #[.int .i64 0, .int .i64 0] 29) = w3 at bx HB T1 ⊢
      have s : St w w3 w.heap.size bs A c A' c' fr L Y := ⟨bx, hz.below bx, HB⟩
      clear bx HB
      refine (rmayZone_any bs A c A' c' fr L Y _ w3 s.z s.le).mono ?_
      rintro e wz ⟨rfl, bb⟩
      rw [mt]
      replace T1 := T1.below bb T1.lt
      replace s := s.step bb
      clear bb
      obtain ⟨lt, c0, c1, c2, c3⟩ := s.cells
      go_wp2_with fail
      refine (rmay_any u _).mono ?_
      rintro e w9 ⟨rfl, rfl⟩
      rw [tt]
      have t10 := T1.c0
      have t11 := T1.c1
      have f10 := T1.free 0
      have f11 := T1.free 1
      go_wp2_with fail
      have T2 := T1.set 0 0
      have bb := (s.b.setCell (p := ⟨w.heap.size + 1, 0, none⟩) (by simp only; omega) (.int .i64 0)).setCell (p := ⟨w.heap.size + 1, 1, none⟩) (by simp only; omega) (.int .i64 0)
      refine bodyPost_ret (results_shift rfl _ _ rfl T2) rfl ?_
      exact ⟨none, rfl, bb, fun h => absurd h.1 qt, fun _ => rfl⟩
  · have mt := mayZB_no qm
    go_enter Try.func15, Try.ntmps15
    go_wp2_with fail
    have bx := ((Below.refl w.heap.size w).alloc (Nat.le_refl _) (zo bs A L.length c A' Y.length c' fr)).alloc (by simp) (.cells #[.int .i64 0, .int .i64 0] 29)
    have HB : Boxed ((w.alloc (zo bs A L.length c A' Y.length c' fr)).alloc (.cells #[.int .i64 0, .int .i64 0] 29)) w.heap.size bs A L.length c A' Y.length c' fr := by
      refine ((Boxed.new_ w).below ((Below.refl (w.heap.size + 1) _).alloc (by simp) _) (by omega))
    have T1 : Two ((w.alloc (zo bs A L.length c A' Y.length c' fr)).alloc (.cells #[.int .i64 0, .int .i64 0] 29)) (w.heap.size + 1) 0 0 := Two.new_ _ _ _ _ (by simp)
    generalize (w.alloc (zo bs A L.length c A' Y.length c' fr)).alloc (.cells #[.int .i64 0, .int .i64 0] 29) = w3 at bx HB T1 ⊢
    have s : St w w3 w.heap.size bs A c A' c' fr L Y := ⟨bx, hz.below bx, HB⟩
    clear bx HB
    refine (rmayZone_any bs A c A' c' fr L Y _ w3 s.z s.le).mono ?_
    rintro e wz ⟨rfl, bb⟩
    rw [mt]
    replace T1 := T1.below bb T1.lt
    replace s := s.step bb
    clear bb
    obtain ⟨lt, c0, c1, c2, c3⟩ := s.cells
    have t10 := T1.c0
    have t11 := T1.c1
    have f10 := T1.free 0
    have f11 := T1.free 1
    go_wp2_with fail
    have T2 := T1.set 0 0
    have bb := (s.b.setCell (p := ⟨w.heap.size + 1, 0, none⟩) (by simp only; omega) (.int .i64 0)).setCell (p := ⟨w.heap.size + 1, 1, none⟩) (by simp only; omega) (.int .i64 0)
    refine bodyPost_ret (results_shift rfl _ _ rfl T2) rfl ?_
    exact ⟨none, rfl, bb, fun h => absurd h.2 qm, fun _ => rfl⟩
set_option maxRecDepth 100000 in
set_option maxHeartbeats 4000000 in
theorem rafter_any {bs : Int} {A : Option Addr} {c : Nat} {A' : Option Addr} {c' : Nat} {fr u : Int} {L : List Sh} {Y : List Yr} {B : Nat} {w : World} (hz : ZAt w B A A' L Y) (hB : B ≤ w.heap.size) :
    Calls Try.prog 17 #[zv bs A L.length c A' Y.length c' fr, .int .i64 u] w fun e w' => ∃ r, e = .returned (shv r) ∧ Below w.heap.size w w' ∧ (Fine bs L Y fr u → IsAft (IsShift L Y fr) u r) ∧ (¬ Fine bs L Y fr u → r = none) := by
  replace hz := hz.mono hB
  clear hB
  by_cases qm : MayZ bs L Y fr
  · have mt := mayZB_yes qm
    by_cases qt : MayT u
    · have tt := decide_eq_true qt
      go_enter Try.func17, Try.ntmps17
      go_wp2_with fail
      have bx := ((Below.refl w.heap.size w).alloc (Nat.le_refl _) (zo bs A L.length c A' Y.length c' fr)).alloc (by simp) (.cells #[.int .i64 0, .int .i64 0] 29)
      have HB : Boxed ((w.alloc (zo bs A L.length c A' Y.length c' fr)).alloc (.cells #[.int .i64 0, .int .i64 0] 29)) w.heap.size bs A L.length c A' Y.length c' fr := by
        refine ((Boxed.new_ w).below ((Below.refl (w.heap.size + 1) _).alloc (by simp) _) (by omega))
      have T1 : Two ((w.alloc (zo bs A L.length c A' Y.length c' fr)).alloc (.cells #[.int .i64 0, .int .i64 0] 29)) (w.heap.size + 1) 0 0 := Two.new_ _ _ _ _ (by simp)
      generalize (w.alloc (zo bs A L.length c A' Y.length c' fr)).alloc (.cells #[.int .i64 0, .int .i64 0] 29) = w3 at bx HB T1 ⊢
      have s : St w w3 w.heap.size bs A c A' c' fr L Y := ⟨bx, hz.below bx, HB⟩
      clear bx HB
      refine (rmayZone_any bs A c A' c' fr L Y _ w3 s.z s.le).mono ?_
      rintro e wz ⟨rfl, bb⟩
      rw [mt]
      replace T1 := T1.below bb T1.lt
      replace s := s.step bb
      clear bb
      obtain ⟨lt, c0, c1, c2, c3⟩ := s.cells
      go_wp2_with fail
      refine (rmay_any u _).mono ?_
      rintro e w9 ⟨rfl, rfl⟩
      rw [tt]
      go_wp2_with fail
      refine (rnear_any bs A c A' c' fr u L Y _ qm qt (s.z.mono s.le)).mono ?_
      rintro e wz ⟨A5, c5, N, rfl, O, bb, hN, hX⟩
      replace T1 := T1.below bb T1.lt
      replace s := s.step bb
      have ho := O.at_
      clear bb lt c0 c1 c2 c3 O
      have hX := Lib.hid hX
      go_wp2_with fail
      go_loopw [7] (fun kv wr => ∃ k : Nat, k ≤ N.length ∧ kv = .int .i64 (k : Int) ∧ (∀ i (h : i < N.length), i < k → ¬ u < N[i].at_) ∧ wr = wz) (fun kv _ => N.length - (intOf kv).toNat)
      case atStart => exact ⟨0, Nat.zero_le _, rfl, fun i h h2 => absurd h2 (by omega), rfl⟩
      case round =>
        obtain ⟨k, hk, rfl, hall, rfl⟩ := hrel
        by_cases k0 : k < N.length
        · obtain ⟨ad, rfl, hbl, p0, p1⟩ := ho k k0
          have z4 : (0 : Int) ≤ (k : Int) := by omega
          have z5 : (k : Int) < (N.length : Int) := by omega
          have hhit := Lib.hid (fun h => hX.out.aft2 (aft_hit hX.out.up k0 h hall))
          have hnx := Lib.hid (show ¬ u < N[k].at_ → ∀ i (h : i < N.length), i < k + 1 → ¬ u < N[i].at_ from fun q i hi h2 => by
            by_cases e : i < k
            · exact hall i hi e
            · obtain rfl : i = k := by omega
              exact q)
          clear hall
          obtain ⟨P, hP⟩ : ∃ P : Sh, P = N[k] := ⟨_, rfl⟩
          rw [← hP] at p0 p1 hhit hnx
          clear hP
          by_cases q : u < P.at_
          · have qt' := decide_eq_true q
            have t10 := T1.c0
            have t11 := T1.c1
            have f10 := T1.free 0
            have f11 := T1.free 1
            go_wp2_with fail
            have T2 := T1.set P.at_ P.off
            have bb := (s.b.setCell (p := ⟨w.heap.size + 1, 0, none⟩) (by simp only; omega) (.int .i64 P.at_)).setCell (p := ⟨w.heap.size + 1, 1, none⟩) (by simp only; omega) (.int .i64 P.off)
            refine bodyPost_ret (results_shift rfl _ _ rfl T2) rfl ?_
            exact ⟨some P, rfl, bb, fun _ => hhit.out q, fun h => absurd ⟨qt, qm⟩ h⟩
          · have qt' := decide_eq_false q
            go_wp2_with fail
            go_roundw
            case rel => exact ⟨k + 1, by omega, by simp, hnx.out q, trivial⟩
            case measure => simp [intOf]; omega
        · obtain rfl : k = N.length := by omega
          have hr := Lib.hid (hX.out.aft2 (aft_miss hall))
          clear hall k0
          have t10 := T1.c0
          have t11 := T1.c1
          have f10 := T1.free 0
          have f11 := T1.free 1
          go_wp2_with fail
          have T2 := T1.set 0 0
          have bb := (s.b.setCell (p := ⟨w.heap.size + 1, 0, none⟩) (by simp only; omega) (.int .i64 0)).setCell (p := ⟨w.heap.size + 1, 1, none⟩) (by simp only; omega) (.int .i64 0)
          refine bodyPost_ret (results_shift rfl _ _ rfl T2) rfl ?_
          exact ⟨none, rfl, bb, fun _ => hr.out, fun h => absurd ⟨qt, qm⟩ h⟩
    · have tt := decide_eq_false qt
      go_enter Try.func17, Try.ntmps17
      go_wp2_with fail
      have bx := ((Below.refl w.heap.size w).alloc (Nat.le_refl _) (zo bs A L.length c A' Y.length c' fr)).alloc (by simp) (.cells #[.int .i64 0, .int .i64 0] 29)
      have HB : Boxed ((w.alloc (zo bs A L.length c A' Y.length c' fr)).alloc (.cells #[.int .i64 0, .int .i64 0] 29)) w.heap.size bs A L.length c A' Y.length c' fr := by
        refine ((Boxed.new_ w).below ((Below.refl (w.heap.size + 1) _).alloc (by simp) _) (by omega))
      have T1 : Two ((w.alloc (zo bs A L.length c A' Y.length c' fr)).alloc (.cells #[.int .i64 0, .int .i64 0] 29)) (w.heap.size + 1) 0 0 := Two.new_ _ _ _ _ (by simp)
      generalize (w.alloc (zo bs A L.length c A' Y.length c' fr)).alloc (.cells #[.int .i64 0, .int .i64 0] 29) = w3 at bx HB T1 ⊢
      have s : St w w3 w.heap.size bs A c A' c' fr L Y := ⟨bx, hz.below bx, HB⟩
      clear bx HB
      refine (rmayZone_any bs A c A' c' fr L Y _ w3 s.z s.le).mono ?_
      rintro e wz ⟨rfl, bb⟩
      rw [mt]
      replace T1 := T1.below bb T1.lt
      replace s := s.step bb
      clear bb
      obtain ⟨lt, c0, c1, c2, c3⟩ := s.cells
      go_wp2_with fail
      refine (rmay_any u _).mono ?_
      rintro e w9 ⟨rfl, rfl⟩
      rw [tt]
      have t10 := T1.c0
      have t11 := T1.c1
      have f10 := T1.free 0
      have f11 := T1.free 1
      go_wp2_with fail
      have T2 := T1.set 0 0
      have bb := (s.b.setCell (p := ⟨w.heap.size + 1, 0, none⟩) (by simp only; omega) (.int .i64 0)).setCell (p := ⟨w.heap.size + 1, 1, none⟩) (by simp only; omega) (.int .i64 0)
      refine bodyPost_ret (results_shift rfl _ _ rfl T2) rfl ?_
      exact ⟨none, rfl, bb, fun h => absurd h.1 qt, fun _ => rfl⟩
  · have mt := mayZB_no qm
    go_enter Try.func17, Try.ntmps17
    go_wp2_with fail
    have bx := ((Below.refl w.heap.size w).alloc (Nat.le_refl _) (zo bs A L.length c A' Y.length c' fr)).alloc (by simp) (.cells #[.int .i64 0, .int .i64 0] 29)
    have HB : Boxed ((w.alloc (zo bs A L.length c A' Y.length c' fr)).alloc (.cells #[.int .i64 0, .int .i64 0] 29)) w.heap.size bs A L.length c A' Y.length c' fr := by
      refine ((Boxed.new_ w).below ((Below.refl (w.heap.size + 1) _).alloc (by simp) _) (by omega))
    have T1 : Two ((w.alloc (zo bs A L.length c A' Y.length c' fr)).alloc (.cells #[.int .i64 0, .int .i64 0] 29)) (w.heap.size + 1) 0 0 := Two.new_ _ _ _ _ (by simp)
    generalize (w.alloc (zo bs A L.length c A' Y.length c' fr)).alloc (.cells #[.int .i64 0, .int .i64 0] 29) = w3 at bx HB T1 ⊢
    have s : St w w3 w.heap.size bs A c A' c' fr L Y := ⟨bx, hz.below bx, HB⟩
    clear bx HB
    refine (rmayZone_any bs A c A' c' fr L Y _ w3 s.z s.le).mono ?_
    rintro e wz ⟨rfl, bb⟩
    rw [mt]
    replace T1 := T1.below bb T1.lt
    replace s := s.step bb
    clear bb
    obtain ⟨lt, c0, c1, c2, c3⟩ := s.cells
    have t10 := T1.c0
    have t11 := T1.c1
    have f10 := T1.free 0
    have f11 := T1.free 1
    go_wp2_with fail
    have T2 := T1.set 0 0
    have bb := (s.b.setCell (p := ⟨w.heap.size + 1, 0, none⟩) (by simp only; omega) (.int .i64 0)).setCell (p := ⟨w.heap.size + 1, 1, none⟩) (by simp only; omega) (.int .i64 0)
    refine bodyPost_ret (results_shift rfl _ _ rfl T2) rfl ?_
    exact ⟨none, rfl, bb, fun h => absurd h.2 qm, fun _ => rfl⟩
end Go.Proofs.Ytbnchbcdgffkaaa
