/- stamp.DurParse, of any text. -/
import Derived.Test.YtkeeocidinnnnaaDoorBad
namespace Go.Proofs.YtkeeocidinnnnaaDoor
open Go.RowKit
open Classical
set_option linter.unusedVariables false
/-- A sign's unit; 0: it is none. -/
def unit (b : Nat) : Int := if b = 87 then 604800 else if b = 68 then 86400 else if b = 72 then 3600 else if b = 77 then 60 else if b = 83 then 1 else 0
def byteAt (s : ByteArray) (j : Nat) : Nat := if h : j < s.size then s[j].toNat else 0
def AllDig (s : ByteArray) : Prop := ∀ k, k < s.size → IsDig s k
/-- One sign read: the sum so far, and where the number at hand begins. -/
noncomputable def dstep (s : ByteArray) (j : Nat) (T : Int) (a : Nat) : Option (Int × Nat) :=
  if unit (byteAt s j) = 0 then (if byteAt s j = 80 ∨ byteAt s j = 84 then some (T, j + 1) else some (T, a))
  else if AllDig (s.extract a j) ∧ 1 ≤ j - a ∧ j - a ≤ 10 then some (T + pre (s.extract a j) (s.extract a j).size * unit (byteAt s j), j + 1) else none
noncomputable def drun (s : ByteArray) : Nat → Option (Int × Nat)
  | 0 => some (0, 0)
  | j + 1 => match drun s j with
    | none => none
    | some (T, a) => dstep s j T a
theorem str_ne {a b : ByteArray} (h : ¬ a = b) : (a.toList == b.toList) = false := by
  rw [beq_eq_false_iff_ne, ByteArray.toList_eq, ByteArray.toList_eq]
  intro e
  obtain ⟨a⟩ := a
  obtain ⟨b⟩ := b
  exact h (congrArg _ (Array.toList_inj.mp e))
theorem drun_none {s : ByteArray} {j : Nat} (h : drun s j = none) : ∀ k, drun s (j + k) = none
  | 0 => h
  | k + 1 => by rw [show j + (k + 1) = (j + k) + 1 from rfl, drun, drun_none h k]
/-- What DurParse answers. -/
noncomputable def dpV (s : ByteArray) : Int × Int := match drun s s.size with
  | none => (0, 4)
  | some (T, _) => if (1 ≤ T ∧ T ≤ 2147483648) ∧ (⟨(dur T).toArray⟩ : ByteArray) = s then (T, 0) else (0, 4)
theorem dpV_none {s : ByteArray} (h : drun s s.size = none) : dpV s = (0, 4) := by unfold dpV; rw [h]
theorem dpV_some {s : ByteArray} {T : Int} {a : Nat} (h : drun s s.size = some (T, a)) : dpV s = if (1 ≤ T ∧ T ≤ 2147483648) ∧ (⟨(dur T).toArray⟩ : ByteArray) = s then (T, 0) else (0, 4) := by unfold dpV; rw [h]
set_option maxRecDepth 100000 in
set_option maxHeartbeats 4000000 in
theorem number_w (s : ByteArray) (hs : s.size ≤ 3000) (w : World) :
    Calls Tryd.prog 36 #[.string s] w fun e w' => (∃ v ok, e = .returned (.tuple #[.int .i64 v, .bool ok]) ∧ (ok = true → AllDig s)) ∧ w = w' := by
  go_enter Tryd.func36, Tryd.ntmps36
  go_wp2_with fail
  go_loopw [4, 8] (fun nv kv wr => ∃ (j : Nat) (v : Int), j ≤ s.size ∧ nv = .int .i64 v ∧ kv = .int .i64 (j : Int) ∧ (∀ i, i < j → IsDig s i) ∧ w = wr) (fun nv kv _ => s.size - (intOf kv).toNat)
  case atStart => exact ⟨0, 0, Nat.zero_le _, rfl, rfl, fun i h => absurd h (by omega), rfl⟩
  case round =>
    obtain ⟨j, v, hj, rfl, rfl, hall, rfl⟩ := hrel
    replace hall := Lib.hid hall
    by_cases hlt : j < s.size
    · have i0 : (0 : Int) ≤ (j : Int) := by omega
      have i1 : (j : Int) < (s.size : Int) := by omega
      by_cases hd : IsDig s j
      · obtain ⟨d1, d2⟩ := hd hlt
        replace hd := Lib.hid hd
        generalize hB : s[j].toNat = b at d1 d2
        have t1 : decide ((b : Int) < 48) = false := decide_eq_false (by omega)
        have t2 : decide ((57 : Int) < (b : Int)) = false := decide_eq_false (by omega)
        go_wp2_with fail
        go_roundw
        case rel => exact ⟨j + 1, _, by omega, rfl, by simp, fun i h => by
          rcases Nat.lt_or_eq_of_le (Nat.le_of_lt_succ h) with h | rfl
          · exact hall.out i h
          · exact hd.out, trivial⟩
        case measure => simp [intOf]; omega
      · have hnb : ¬ (48 ≤ s[j].toNat ∧ s[j].toNat ≤ 57) := fun h => hd fun _ => h
        clear hall hd
        generalize hB : s[j].toNat = b at hnb
        by_cases q : b < 48
        · have t1 : decide ((b : Int) < 48) = true := decide_eq_true (by omega)
          clear hnb
          go_wp2_with fail
          go_ret2
          exact ⟨⟨_, _, rfl, fun h => by cases h⟩, rfl⟩
        · have t1 : decide ((b : Int) < 48) = false := decide_eq_false (by omega)
          have t2 : decide ((57 : Int) < (b : Int)) = true := decide_eq_true (by omega)
          clear hnb
          go_wp2_with fail
          go_ret2
          exact ⟨⟨_, _, rfl, fun h => by cases h⟩, rfl⟩
    · obtain rfl : j = s.size := by omega
      go_wp2_with fail
      go_ret2
      exact ⟨⟨_, _, rfl, fun _ => hall.out⟩, rfl⟩
set_option maxRecDepth 100000 in
set_option maxHeartbeats 8000000 in
theorem durparse_any (s : ByteArray) (h1 : 1 ≤ s.size) (h2 : s.size ≤ 2000) (w : World) (ht : Tab w) :
    Calls Tryd.prog 20 #[.string s] w fun e w' => e = .returned (.tuple #[.int .i64 (dpV s).1, .int .i64 (dpV s).2]) ∧ Below w.heap.size w w' := by
  have b := Below.refl w.heap.size w
  have hne : s.toList.isEmpty = false := by
    rw [ByteArray.toList_eq]
    cases q : s.data.toList with
    | nil => have z : s.size = s.data.toList.length := (Array.length_toList (xs := s.data)).symm
             rw [q] at z; exact absurd h1 (by rw [z]; decide)
    | cons x l => rfl
  go_enter Tryd.func20, Tryd.ntmps20
  go_wp2_with fail
  go_loopw [4, 5, 16] (fun tv av kv wr => ∃ (j : Nat) (T : Int) (a : Nat), j ≤ s.size ∧ drun s j = some (T, a) ∧ a ≤ j ∧ 0 ≤ T ∧ T ≤ (a : Int) * 3024000000000000 ∧ tv = .int .i64 T ∧ av = .int .i64 (a : Int) ∧ kv = .int .i64 (j : Int) ∧ Tab wr ∧ Below w.heap.size w wr) (fun tv av kv _ => s.size - (intOf kv).toNat)
  case atStart => exact ⟨0, 0, 0, Nat.zero_le _, rfl, Nat.le_refl _, by omega, by omega, rfl, rfl, rfl, ht, b⟩
  case round =>
    clear ht b
    obtain ⟨j, T, a, hj, hrun, haj, T1, T2, rfl, rfl, rfl, ht, b⟩ := hrel
    by_cases hlt : j < s.size
    · have i0 : (0 : Int) ≤ (j : Int) := by omega
      have i1 : (j : Int) < (s.size : Int) := by omega
      have a0 : (0 : Int) ≤ (a : Int) := by omega
      have a1 : (a : Int) ≤ (s.size : Int) := by omega
      have T3 : T ≤ 6048000000000000000 := by omega
      have hby : byteAt s j = s[j].toNat := by unfold byteAt; rw [dif_pos hlt]
      have hst : unit (byteAt s j) ≠ 0 → AllDig (s.extract a j) ∧ 1 ≤ j - a ∧ j - a ≤ 10 → dstep s j T a = some (T + pre (s.extract a j) (s.extract a j).size * unit (byteAt s j), j + 1) := fun x y => by unfold dstep; rw [if_neg x, if_pos y]
      have hno : unit (byteAt s j) ≠ 0 → ¬ (AllDig (s.extract a j) ∧ 1 ≤ j - a ∧ j - a ≤ 10) → dpV s = (0, 4) := fun x y => dpV_none (by
        have e : drun s (j + 1) = none := by simp only [drun]; rw [hrun]; show dstep s j T a = none; unfold dstep; rw [if_neg x, if_neg y]
        have := drun_none e (s.size - (j + 1))
        rwa [show j + 1 + (s.size - (j + 1)) = s.size by omega] at this)
      have hpt : unit (byteAt s j) = 0 → (byteAt s j = 80 ∨ byteAt s j = 84) → dstep s j T a = some (T, j + 1) := fun x y => by unfold dstep; rw [if_pos x, if_pos y]
      have hot : unit (byteAt s j) = 0 → byteAt s j ≠ 80 → byteAt s j ≠ 84 → dstep s j T a = some (T, a) := fun x y z => by unfold dstep; rw [if_pos x, if_neg (fun h => h.elim y z)]
      rw [hby] at hst hno hpt hot
      generalize hB : s[j].toNat = bb at hst hno hpt hot
      clear hby
      by_cases q87 : bb = 87
      · subst q87
        by_cases g : AllDig (s.extract a j) ∧ 1 ≤ j - a ∧ j - a ≤ 10
        · have hst := hst (by decide) g
          obtain ⟨g1, g2, g3⟩ := g
          have zs : (s.extract a j).size = j - a := sub_size s a j haj (by omega)
          obtain ⟨p1, p2⟩ := pre_bd (s.extract a j).size fun i hi => g1 i hi
          have p3 : pre (s.extract a j) (s.extract a j).size ≤ 10000000000 := by
            have h1 : (10 : Nat) ^ (s.extract a j).size ≤ 10 ^ 10 := Nat.pow_le_pow_right (by omega) (by omega)
            have e : ((10 ^ (s.extract a j).size : Nat) : Int) = (10 : Int) ^ (s.extract a j).size := by push_cast; rfl
            rw [← e] at p2
            omega
          have hN := number_yes (s.extract a j) (by omega) g1
          generalize pre (s.extract a j) (s.extract a j).size = v at p1 p2 p3 hN hst
          have x1 : decide ((j : Int) - (a : Int) < 1) = false := decide_eq_false (by omega)
          have x2 : decide ((10 : Int) < (j : Int) - (a : Int)) = false := decide_eq_false (by omega)
          have y1 : (a : Int) ≤ (j : Int) := by omega
          have y2 : 0 ≤ (j : Int) - (a : Int) := by omega
          have y3 : (j : Int) - (a : Int) ≤ 10 := by omega
          have y4 : 1 ≤ (j : Int) - (a : Int) := by omega
          have hst := Lib.hid hst
          replace hrun := Lib.hid hrun
          clear g1 g2 g3 p2 hno zs
          go_wp2_with fail
          refine (hN _).mono ?_
          rintro e w9 ⟨rfl, rfl⟩
          go_wp2_with fail
          go_roundw
          case rel => exact ⟨j + 1, T + v * 604800, j + 1, by omega, by simp only [drun]; rw [hrun.out]; exact hst.out, by omega, by omega, by push_cast; omega, rfl, by simp, by simp, ht, b⟩
          case measure => simp [intOf]; omega
        · have hNo := Lib.hid (hno (by decide) g)
          have hN := number_w (s.extract a j) (by rw [ByteArray.size_extract]; omega)
          have zs : (s.extract a j).size = j - a := sub_size s a j haj (by omega)
          have y1 : (a : Int) ≤ (j : Int) := by omega
          clear hst hno
          replace g := Lib.hid g
          go_wp2_with fail
          refine (hN _).mono ?_
          rintro e w9 ⟨⟨v, ok, rfl, hok⟩, rfl⟩
          rcases ok with _ | _
          · clear hok
            go_wp2_with fail
            go_ret2
            rw [hNo.out]
            exact ⟨rfl, b⟩
          · have y2 : 0 ≤ (j : Int) - (a : Int) := by omega
            have y3 : (j : Int) - (a : Int) ≤ 2000 := by omega
            by_cases k : j - a < 1
            · have x1 : decide ((j : Int) - (a : Int) < 1) = true := decide_eq_true (by omega)
              clear hok k
              go_wp2_with fail
              go_ret2
              rw [hNo.out]
              exact ⟨rfl, b⟩
            · have x1 : decide ((j : Int) - (a : Int) < 1) = false := decide_eq_false (by omega)
              have x2 : decide ((10 : Int) < (j : Int) - (a : Int)) = true := decide_eq_true (by
                have : ¬ (j - a ≤ 10) := fun h => g.out ⟨hok rfl, by omega, h⟩
                omega)
              clear hok k
              go_wp2_with fail
              go_ret2
              rw [hNo.out]
              exact ⟨rfl, b⟩
      · have q87t : ((bb : Int) == 87) = false := by rw [beq_eq_false_iff_ne]; omega
        by_cases q68 : bb = 68
        · subst q68
          by_cases g : AllDig (s.extract a j) ∧ 1 ≤ j - a ∧ j - a ≤ 10
          · have hst := hst (by decide) g
            obtain ⟨g1, g2, g3⟩ := g
            have zs : (s.extract a j).size = j - a := sub_size s a j haj (by omega)
            obtain ⟨p1, p2⟩ := pre_bd (s.extract a j).size fun i hi => g1 i hi
            have p3 : pre (s.extract a j) (s.extract a j).size ≤ 10000000000 := by
              have h1 : (10 : Nat) ^ (s.extract a j).size ≤ 10 ^ 10 := Nat.pow_le_pow_right (by omega) (by omega)
              have e : ((10 ^ (s.extract a j).size : Nat) : Int) = (10 : Int) ^ (s.extract a j).size := by push_cast; rfl
              rw [← e] at p2
              omega
            have hN := number_yes (s.extract a j) (by omega) g1
            generalize pre (s.extract a j) (s.extract a j).size = v at p1 p2 p3 hN hst
            have x1 : decide ((j : Int) - (a : Int) < 1) = false := decide_eq_false (by omega)
            have x2 : decide ((10 : Int) < (j : Int) - (a : Int)) = false := decide_eq_false (by omega)
            have y1 : (a : Int) ≤ (j : Int) := by omega
            have y2 : 0 ≤ (j : Int) - (a : Int) := by omega
            have y3 : (j : Int) - (a : Int) ≤ 10 := by omega
            have y4 : 1 ≤ (j : Int) - (a : Int) := by omega
            have hst := Lib.hid hst
            replace hrun := Lib.hid hrun
            clear g1 g2 g3 p2 hno zs
            go_wp2_with fail
            refine (hN _).mono ?_
            rintro e w9 ⟨rfl, rfl⟩
            go_wp2_with fail
            go_roundw
            case rel => exact ⟨j + 1, T + v * 86400, j + 1, by omega, by simp only [drun]; rw [hrun.out]; exact hst.out, by omega, by omega, by push_cast; omega, rfl, by simp, by simp, ht, b⟩
            case measure => simp [intOf]; omega
          · have hNo := Lib.hid (hno (by decide) g)
            have hN := number_w (s.extract a j) (by rw [ByteArray.size_extract]; omega)
            have zs : (s.extract a j).size = j - a := sub_size s a j haj (by omega)
            have y1 : (a : Int) ≤ (j : Int) := by omega
            clear hst hno
            replace g := Lib.hid g
            go_wp2_with fail
            refine (hN _).mono ?_
            rintro e w9 ⟨⟨v, ok, rfl, hok⟩, rfl⟩
            rcases ok with _ | _
            · clear hok
              go_wp2_with fail
              go_ret2
              rw [hNo.out]
              exact ⟨rfl, b⟩
            · have y2 : 0 ≤ (j : Int) - (a : Int) := by omega
              have y3 : (j : Int) - (a : Int) ≤ 2000 := by omega
              by_cases k : j - a < 1
              · have x1 : decide ((j : Int) - (a : Int) < 1) = true := decide_eq_true (by omega)
                clear hok k
                go_wp2_with fail
                go_ret2
                rw [hNo.out]
                exact ⟨rfl, b⟩
              · have x1 : decide ((j : Int) - (a : Int) < 1) = false := decide_eq_false (by omega)
                have x2 : decide ((10 : Int) < (j : Int) - (a : Int)) = true := decide_eq_true (by
                  have : ¬ (j - a ≤ 10) := fun h => g.out ⟨hok rfl, by omega, h⟩
                  omega)
                clear hok k
                go_wp2_with fail
                go_ret2
                rw [hNo.out]
                exact ⟨rfl, b⟩
        · have q68t : ((bb : Int) == 68) = false := by rw [beq_eq_false_iff_ne]; omega
          by_cases q72 : bb = 72
          · subst q72
            by_cases g : AllDig (s.extract a j) ∧ 1 ≤ j - a ∧ j - a ≤ 10
            · have hst := hst (by decide) g
              obtain ⟨g1, g2, g3⟩ := g
              have zs : (s.extract a j).size = j - a := sub_size s a j haj (by omega)
              obtain ⟨p1, p2⟩ := pre_bd (s.extract a j).size fun i hi => g1 i hi
              have p3 : pre (s.extract a j) (s.extract a j).size ≤ 10000000000 := by
                have h1 : (10 : Nat) ^ (s.extract a j).size ≤ 10 ^ 10 := Nat.pow_le_pow_right (by omega) (by omega)
                have e : ((10 ^ (s.extract a j).size : Nat) : Int) = (10 : Int) ^ (s.extract a j).size := by push_cast; rfl
                rw [← e] at p2
                omega
              have hN := number_yes (s.extract a j) (by omega) g1
              generalize pre (s.extract a j) (s.extract a j).size = v at p1 p2 p3 hN hst
              have x1 : decide ((j : Int) - (a : Int) < 1) = false := decide_eq_false (by omega)
              have x2 : decide ((10 : Int) < (j : Int) - (a : Int)) = false := decide_eq_false (by omega)
              have y1 : (a : Int) ≤ (j : Int) := by omega
              have y2 : 0 ≤ (j : Int) - (a : Int) := by omega
              have y3 : (j : Int) - (a : Int) ≤ 10 := by omega
              have y4 : 1 ≤ (j : Int) - (a : Int) := by omega
              have hst := Lib.hid hst
              replace hrun := Lib.hid hrun
              clear g1 g2 g3 p2 hno zs
              go_wp2_with fail
              refine (hN _).mono ?_
              rintro e w9 ⟨rfl, rfl⟩
              go_wp2_with fail
              go_roundw
              case rel => exact ⟨j + 1, T + v * 3600, j + 1, by omega, by simp only [drun]; rw [hrun.out]; exact hst.out, by omega, by omega, by push_cast; omega, rfl, by simp, by simp, ht, b⟩
              case measure => simp [intOf]; omega
            · have hNo := Lib.hid (hno (by decide) g)
              have hN := number_w (s.extract a j) (by rw [ByteArray.size_extract]; omega)
              have zs : (s.extract a j).size = j - a := sub_size s a j haj (by omega)
              have y1 : (a : Int) ≤ (j : Int) := by omega
              clear hst hno
              replace g := Lib.hid g
              go_wp2_with fail
              refine (hN _).mono ?_
              rintro e w9 ⟨⟨v, ok, rfl, hok⟩, rfl⟩
              rcases ok with _ | _
              · clear hok
                go_wp2_with fail
                go_ret2
                rw [hNo.out]
                exact ⟨rfl, b⟩
              · have y2 : 0 ≤ (j : Int) - (a : Int) := by omega
                have y3 : (j : Int) - (a : Int) ≤ 2000 := by omega
                by_cases k : j - a < 1
                · have x1 : decide ((j : Int) - (a : Int) < 1) = true := decide_eq_true (by omega)
                  clear hok k
                  go_wp2_with fail
                  go_ret2
                  rw [hNo.out]
                  exact ⟨rfl, b⟩
                · have x1 : decide ((j : Int) - (a : Int) < 1) = false := decide_eq_false (by omega)
                  have x2 : decide ((10 : Int) < (j : Int) - (a : Int)) = true := decide_eq_true (by
                    have : ¬ (j - a ≤ 10) := fun h => g.out ⟨hok rfl, by omega, h⟩
                    omega)
                  clear hok k
                  go_wp2_with fail
                  go_ret2
                  rw [hNo.out]
                  exact ⟨rfl, b⟩
          · have q72t : ((bb : Int) == 72) = false := by rw [beq_eq_false_iff_ne]; omega
            by_cases q77 : bb = 77
            · subst q77
              by_cases g : AllDig (s.extract a j) ∧ 1 ≤ j - a ∧ j - a ≤ 10
              · have hst := hst (by decide) g
                obtain ⟨g1, g2, g3⟩ := g
                have zs : (s.extract a j).size = j - a := sub_size s a j haj (by omega)
                obtain ⟨p1, p2⟩ := pre_bd (s.extract a j).size fun i hi => g1 i hi
                have p3 : pre (s.extract a j) (s.extract a j).size ≤ 10000000000 := by
                  have h1 : (10 : Nat) ^ (s.extract a j).size ≤ 10 ^ 10 := Nat.pow_le_pow_right (by omega) (by omega)
                  have e : ((10 ^ (s.extract a j).size : Nat) : Int) = (10 : Int) ^ (s.extract a j).size := by push_cast; rfl
                  rw [← e] at p2
                  omega
                have hN := number_yes (s.extract a j) (by omega) g1
                generalize pre (s.extract a j) (s.extract a j).size = v at p1 p2 p3 hN hst
                have x1 : decide ((j : Int) - (a : Int) < 1) = false := decide_eq_false (by omega)
                have x2 : decide ((10 : Int) < (j : Int) - (a : Int)) = false := decide_eq_false (by omega)
                have y1 : (a : Int) ≤ (j : Int) := by omega
                have y2 : 0 ≤ (j : Int) - (a : Int) := by omega
                have y3 : (j : Int) - (a : Int) ≤ 10 := by omega
                have y4 : 1 ≤ (j : Int) - (a : Int) := by omega
                have hst := Lib.hid hst
                replace hrun := Lib.hid hrun
                clear g1 g2 g3 p2 hno zs
                go_wp2_with fail
                refine (hN _).mono ?_
                rintro e w9 ⟨rfl, rfl⟩
                go_wp2_with fail
                go_roundw
                case rel => exact ⟨j + 1, T + v * 60, j + 1, by omega, by simp only [drun]; rw [hrun.out]; exact hst.out, by omega, by omega, by push_cast; omega, rfl, by simp, by simp, ht, b⟩
                case measure => simp [intOf]; omega
              · have hNo := Lib.hid (hno (by decide) g)
                have hN := number_w (s.extract a j) (by rw [ByteArray.size_extract]; omega)
                have zs : (s.extract a j).size = j - a := sub_size s a j haj (by omega)
                have y1 : (a : Int) ≤ (j : Int) := by omega
                clear hst hno
                replace g := Lib.hid g
                go_wp2_with fail
                refine (hN _).mono ?_
                rintro e w9 ⟨⟨v, ok, rfl, hok⟩, rfl⟩
                rcases ok with _ | _
                · clear hok
                  go_wp2_with fail
                  go_ret2
                  rw [hNo.out]
                  exact ⟨rfl, b⟩
                · have y2 : 0 ≤ (j : Int) - (a : Int) := by omega
                  have y3 : (j : Int) - (a : Int) ≤ 2000 := by omega
                  by_cases k : j - a < 1
                  · have x1 : decide ((j : Int) - (a : Int) < 1) = true := decide_eq_true (by omega)
                    clear hok k
                    go_wp2_with fail
                    go_ret2
                    rw [hNo.out]
                    exact ⟨rfl, b⟩
                  · have x1 : decide ((j : Int) - (a : Int) < 1) = false := decide_eq_false (by omega)
                    have x2 : decide ((10 : Int) < (j : Int) - (a : Int)) = true := decide_eq_true (by
                      have : ¬ (j - a ≤ 10) := fun h => g.out ⟨hok rfl, by omega, h⟩
                      omega)
                    clear hok k
                    go_wp2_with fail
                    go_ret2
                    rw [hNo.out]
                    exact ⟨rfl, b⟩
            · have q77t : ((bb : Int) == 77) = false := by rw [beq_eq_false_iff_ne]; omega
              by_cases q83 : bb = 83
              · subst q83
                by_cases g : AllDig (s.extract a j) ∧ 1 ≤ j - a ∧ j - a ≤ 10
                · have hst := hst (by decide) g
                  obtain ⟨g1, g2, g3⟩ := g
                  have zs : (s.extract a j).size = j - a := sub_size s a j haj (by omega)
                  obtain ⟨p1, p2⟩ := pre_bd (s.extract a j).size fun i hi => g1 i hi
                  have p3 : pre (s.extract a j) (s.extract a j).size ≤ 10000000000 := by
                    have h1 : (10 : Nat) ^ (s.extract a j).size ≤ 10 ^ 10 := Nat.pow_le_pow_right (by omega) (by omega)
                    have e : ((10 ^ (s.extract a j).size : Nat) : Int) = (10 : Int) ^ (s.extract a j).size := by push_cast; rfl
                    rw [← e] at p2
                    omega
                  have hN := number_yes (s.extract a j) (by omega) g1
                  generalize pre (s.extract a j) (s.extract a j).size = v at p1 p2 p3 hN hst
                  have x1 : decide ((j : Int) - (a : Int) < 1) = false := decide_eq_false (by omega)
                  have x2 : decide ((10 : Int) < (j : Int) - (a : Int)) = false := decide_eq_false (by omega)
                  have y1 : (a : Int) ≤ (j : Int) := by omega
                  have y2 : 0 ≤ (j : Int) - (a : Int) := by omega
                  have y3 : (j : Int) - (a : Int) ≤ 10 := by omega
                  have y4 : 1 ≤ (j : Int) - (a : Int) := by omega
                  have hst : dstep s j T a = some (T + v, j + 1) := by have q := hst; rwa [show unit 83 = 1 from rfl, Int.mul_one] at q
                  replace hst := Lib.hid hst
                  replace hrun := Lib.hid hrun
                  clear g1 g2 g3 p2 hno zs
                  go_wp2_with fail
                  refine (hN _).mono ?_
                  rintro e w9 ⟨rfl, rfl⟩
                  go_wp2_with fail
                  go_roundw
                  case rel => exact ⟨j + 1, T + v, j + 1, by omega, by simp only [drun]; rw [hrun.out]; exact hst.out, by omega, by omega, by push_cast; omega, rfl, by simp, by simp, ht, b⟩
                  case measure => simp [intOf]; omega
                · have hNo := Lib.hid (hno (by decide) g)
                  have hN := number_w (s.extract a j) (by rw [ByteArray.size_extract]; omega)
                  have zs : (s.extract a j).size = j - a := sub_size s a j haj (by omega)
                  have y1 : (a : Int) ≤ (j : Int) := by omega
                  clear hst hno
                  replace g := Lib.hid g
                  go_wp2_with fail
                  refine (hN _).mono ?_
                  rintro e w9 ⟨⟨v, ok, rfl, hok⟩, rfl⟩
                  rcases ok with _ | _
                  · clear hok
                    go_wp2_with fail
                    go_ret2
                    rw [hNo.out]
                    exact ⟨rfl, b⟩
                  · have y2 : 0 ≤ (j : Int) - (a : Int) := by omega
                    have y3 : (j : Int) - (a : Int) ≤ 2000 := by omega
                    by_cases k : j - a < 1
                    · have x1 : decide ((j : Int) - (a : Int) < 1) = true := decide_eq_true (by omega)
                      clear hok k
                      go_wp2_with fail
                      go_ret2
                      rw [hNo.out]
                      exact ⟨rfl, b⟩
                    · have x1 : decide ((j : Int) - (a : Int) < 1) = false := decide_eq_false (by omega)
                      have x2 : decide ((10 : Int) < (j : Int) - (a : Int)) = true := decide_eq_true (by
                        have : ¬ (j - a ≤ 10) := fun h => g.out ⟨hok rfl, by omega, h⟩
                        omega)
                      clear hok k
                      go_wp2_with fail
                      go_ret2
                      rw [hNo.out]
                      exact ⟨rfl, b⟩
              · have q83t : ((bb : Int) == 83) = false := by rw [beq_eq_false_iff_ne]; omega
                by_cases q80 : bb = 80
                · subst q80
                  have hst := hpt (by decide) (by decide)
                  clear hno hpt
                  have hst := Lib.hid hst
                  replace hrun := Lib.hid hrun
                  go_wp2_with fail
                  go_roundw
                  case rel => exact ⟨j + 1, T, j + 1, by omega, by simp only [drun]; rw [hrun.out]; exact hst.out, by omega, by omega, by push_cast; omega, rfl, by simp, by simp, ht, b⟩
                  case measure => simp [intOf]; omega
                · have q80t : ((bb : Int) == 80) = false := by rw [beq_eq_false_iff_ne]; omega
                  by_cases q84 : bb = 84
                  · subst q84
                    have hst := hpt (by decide) (by decide)
                    clear hno hpt
                    have hst := Lib.hid hst
                    replace hrun := Lib.hid hrun
                    go_wp2_with fail
                    go_roundw
                    case rel => exact ⟨j + 1, T, j + 1, by omega, by simp only [drun]; rw [hrun.out]; exact hst.out, by omega, by omega, by push_cast; omega, rfl, by simp, by simp, ht, b⟩
                    case measure => simp [intOf]; omega
                  · have q84t : ((bb : Int) == 84) = false := by rw [beq_eq_false_iff_ne]; omega
                    have hst := hot (by unfold unit; rw [if_neg q87, if_neg q68, if_neg q72, if_neg q77, if_neg q83]) q80 q84
                    clear hno hpt hot
                    have hst := Lib.hid hst
                    replace hrun := Lib.hid hrun
                    go_wp2_with fail
                    go_roundw
                    case rel => exact ⟨j + 1, T, a, by omega, by simp only [drun]; rw [hrun.out]; exact hst.out, by omega, by omega, by omega, by first | rfl | trivial, by first | rfl | trivial, by simp, ht, b⟩
                    case measure => simp [intOf]; omega
    · obtain rfl : j = s.size := by omega
      have hsz : ¬ ((s.size : Int) < (s.size : Int)) := by omega
      replace hrun := Lib.hid hrun
      have hV := dpV_some hrun.out
      by_cases g : 1 ≤ T ∧ T ≤ 2147483648
      · have hD := dur_yes T g.1 g.2
        by_cases e : (⟨(dur T).toArray⟩ : ByteArray) = s
        · rw [if_pos ⟨g, e⟩] at hV
          rw [e] at hD
          replace hV := Lib.hid hV
          clear T2 g e hne h1 h2
          go_wp2_with fail
          refine (hD _ ht).mono ?_
          rintro e wz ⟨rfl, bb⟩
          replace b := b.trans (bb.mono b.size)
          go_wp2_with fail
          go_ret2
          rw [hV.out]
          exact ⟨rfl, b⟩
        · rw [if_neg (fun h => e h.2)] at hV
          generalize (⟨(dur T).toArray⟩ : ByteArray) = d at e hD
          have hne2 := str_ne e
          replace hV := Lib.hid hV
          clear T2 g hne h1 h2
          go_wp2_with fail
          refine (hD _ ht).mono ?_
          rintro e wz ⟨rfl, bb⟩
          replace b := b.trans (bb.mono b.size)
          go_wp2_with fail
          go_ret2
          rw [hV.out]
          exact ⟨rfl, b⟩
      · rw [if_neg (fun h => g h.1)] at hV
        replace hV := Lib.hid hV
        have hD := dur_no T g
        clear T2 g hne h1 h2
        go_wp2_with fail
        refine (hD _).mono ?_
        rintro e wz ⟨rfl, rfl⟩
        go_wp2_with fail
        go_ret2
        rw [hV.out]
        exact ⟨rfl, b⟩
end Go.Proofs.YtkeeocidinnnnaaDoor
