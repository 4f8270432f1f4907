/- BoxTurns: of two boxes the first one is emptied ahead of the second, whatever is put meanwhile: the walk. -/
import Derived.Test.YtegjpfdbfjfolaaHead
namespace Go.Proofs.Ytegjpfdbfjfolaa
open Go.RowKit

theorem two_reads (w : World) (p q : Value) : Reads (w.alloc (.cells #[p, q] 24)) (w.heap.size + 1) 1 (some ⟨w.heap.size, 0, none⟩) 2 [p, q] := by
  refine ⟨rfl, fun _ => ⟨_, rfl, by simp, fun j u hu => ?_⟩⟩
  have hh := heap_alloc_new w (.cells #[p, q] 24)
  have hadd : (⟨w.heap.size, 0, none⟩ : Addr).add j = ⟨w.heap.size, j, none⟩ := by unfold Addr.add; split <;> simp_all
  rw [hadd, cell_of_row _ _ j _ 24 (0, 0) hh]
  simpa using hu
theorem BoxAt.alloc {w : World} {b c cap : Nat} {l : List Int} (h : BoxAt w b c cap l) (o : Obj) : BoxAt (w.alloc o) b c cap l := h.keep (Below.heap_alloc w o b h.ltb) (Below.heap_alloc w o c h.ltc)
theorem BoxAt.turned {w w' : World} {b c cap c' : Nat} {l : List Int} (h : BoxAt w b c cap l) (t : Turned c' w w') (hb : b ≠ c') (hc : c ≠ c') : BoxAt w' b c cap l :=
  h.keep (t.1.block b h.ltb (by simpa using hb)) (t.1.block c h.ltc (by simpa using hc))
theorem two_first (A : Option Addr) (c B : Nat) (x y : Bx) (w : World) (hA : Reads w B 1 A 2 [x.ptr, y.ptr]) (hx : x.At w) (hy : y.At w) (n : Int) (t : List Int) (ht : x.l = n :: t) :
    Calls Try.prog 14 #[.slice A 2 c] w fun e w' => e = .returned (.tuple #[.int .i64 0, .int .i64 n, .bool true]) ∧ BoxAt w' x.b x.c x.cap t ∧ Turned x.c w w' :=
  first_hit A c B [x, y] w hA (by intro z hz; simp at hz; rcases hz with rfl | rfl <;> assumption) (by simp) 0 (by simp) (by omega) n t ht
theorem two_second (A : Option Addr) (c B : Nat) (x y : Bx) (w : World) (hA : Reads w B 1 A 2 [x.ptr, y.ptr]) (hx : x.At w) (hy : y.At w) (he : x.l = []) (n : Int) (t : List Int) (ht : y.l = n :: t) :
    Calls Try.prog 14 #[.slice A 2 c] w fun e w' => e = .returned (.tuple #[.int .i64 1, .int .i64 n, .bool true]) ∧ BoxAt w' y.b y.c y.cap t ∧ Turned y.c w w' :=
  first_hit A c B [x, y] w hA (by intro z hz; simp at hz; rcases hz with rfl | rfl <;> assumption) (by simp) 1 (by simp) (by intro i h hi; obtain rfl : i = 0 := (by omega); exact he) n t ht
theorem two_none (A : Option Addr) (c B : Nat) (x y : Bx) (w : World) (hA : Reads w B 1 A 2 [x.ptr, y.ptr]) (hx : x.At w) (hy : y.At w) (he : x.l = []) (he' : y.l = []) :
    Calls Try.prog 14 #[.slice A 2 c] w fun e w' => e = .returned (.tuple #[.int .i64 0, .int .i64 0, .bool false]) ∧ w = w' :=
  first_miss A c B [x, y] w hA (by intro z hz; simp at hz; rcases hz with rfl | rfl <;> assumption) (by simp) (by
    intro i h
    have : i = 0 ∨ i = 1 := by simp at h; omega
    rcases this with rfl | rfl
    · exact he
    · exact he')
theorem nil_none (w : World) : Calls Try.prog 14 #[.slice none 0 0] w fun e w' => e = .returned (.tuple #[.int .i64 0, .int .i64 0, .bool false]) ∧ w = w' :=
  first_miss none 0 0 [] w Reads.none_ (by simp) (by simp) (by simp)
set_option maxRecDepth 100000 in
set_option maxHeartbeats 4000000 in
theorem turns_ints (A A' : Option Addr) (c c' : Nat) (l k : List Int) (w : World) (ha : IntsAt w w.heap.size A l) (hb : IntsAt w w.heap.size A' k) (hl : l.length ≤ maxLen) (hk : k.length ≤ maxLen) :
    Calls Try.prog 6 #[.slice A l.length c, .slice A' k.length c'] w fun e w' => e = .returned (.bool true) ∧ Below w.heap.size w w' := by
  unfold maxLen at hl hk
  by_cases hlen : l.length ≤ 100 ∧ k.length ≤ 100
  · obtain ⟨hl1, hk1⟩ := hlen
    have hd : decide ((100 : Int) < (l.length : Int)) = false := by simp; omega
    have hd2 : decide ((100 : Int) < (k.length : Int)) = false := by simp; omega
    go_enter Try.func6, Try.ntmps6
    go_wp2_with fail
    refine (first_any _).mono ?_
    rintro e w1 ⟨rfl, b1⟩
    have hw1 := b1.size
    go_wp2_with fail
    refine (new_yes 101 (by omega) (by omega) _).mono ?_
    rintro e w2 ⟨rfl, rfl⟩
    have hn := newBox_at w1 101
    have b2 : Below w.heap.size w (newBox w1 101) := b1.trans ((newBox_below w1 101).mono hw1)
    have hns := newBox_size w1 101
    have hw2 : w.heap.size ≤ (newBox w1 101).heap.size := by omega
    generalize newBox w1 101 = w2 at hn b2 hns hw2 ⊢
    obtain ⟨bx, hbx⟩ : ∃ b, b = w1.heap.size + 1 := ⟨_, rfl⟩
    obtain ⟨cx, hcx⟩ : ∃ b, b = w1.heap.size := ⟨_, rfl⟩
    rw [← hbx, ← hcx] at hn
    rw [← hbx]
    have f1 : w.heap.size ≤ cx := by omega
    have f2 : bx < w2.heap.size := by omega
    have f3 : cx < w2.heap.size := by omega
    clear hbx hns hcx hw1 b1
    go_wp2_with fail
    refine (new_yes 101 (by omega) (by omega) _).mono ?_
    rintro e w3 ⟨rfl, rfl⟩
    have hm := newBox_at w2 101
    have b3 : Below w.heap.size w (newBox w2 101) := b2.trans ((newBox_below w2 101).mono hw2)
    have hms := newBox_size w2 101
    have hx3 : BoxAt (newBox w2 101) bx cx 101 [] := hn.keep ((newBox_below w2 101).block bx f2) ((newBox_below w2 101).block cx f3)
    generalize newBox w2 101 = w3 at hm b3 hms hx3 ⊢
    obtain ⟨yb, hby⟩ : ∃ b, b = w2.heap.size + 1 := ⟨_, rfl⟩
    obtain ⟨cy, hcy⟩ : ∃ b, b = w2.heap.size := ⟨_, rfl⟩
    rw [← hby, ← hcy] at hm
    rw [← hby]
    have f4 : w.heap.size ≤ cy := by omega
    have f5 : bx ≠ cy := by omega
    have f6 : cx ≠ cy := by omega
    have f7 : yb ≠ cx := by omega
    clear hby hms hcy hn b2 hw2 f2 f3
    go_wp2_with fail
    go_loopw [9] (fun i wr => ∃ j : Nat, j ≤ k.length ∧ i = .int .i64 j ∧ BoxAt wr bx cx 101 [] ∧ BoxAt wr yb cy 101 (k.take j) ∧ Below w.heap.size w wr) (fun i _ => k.length - (intOf i).toNat)
    case atStart => exact ⟨0, Nat.zero_le _, rfl, hx3, hm, b3⟩
    case round =>
      clear hm b3 hx3
      obtain ⟨j, hj, rfl, hx, hy, hbel⟩ := hrel
      have hwr := hbel.size
      by_cases hlt : j < k.length
      · obtain ⟨ad, rfl, hc0⟩ := (hb.kept hbel).get hlt
        have hlen1 : (k.take j).length < 101 := by rw [List.length_take]; omega
        go_wp2_with fail
        refine (put_yes hy hlen1 k[j]).mono ?_
        rintro e w4 ⟨rfl, h4, t4⟩
        have b4 := below_turned hbel t4 f4 hwr
        rw [← List.take_succ_eq_append_getElem hlt] at h4
        have hx4 := hx.turned t4 f5 f6
        go_wp2_with fail
        go_roundw
        case rel => exact ⟨j + 1, by omega, by go_num, hx4, h4, b4⟩
        case measure => simp [intOf]; omega
      · have hend : k.take j = k := List.take_of_length_le (by omega)
        rw [hend] at hy
        clear hend
        go_wp2_with fail
        obtain ⟨w5, rfl⟩ : ∃ w5 : World, w5 = wr := ⟨_, rfl⟩
        go_loopw [10] (fun i wr => ∃ j : Nat, j ≤ l.length ∧ i = .int .i64 j ∧ BoxAt wr bx cx 101 [] ∧ BoxAt wr yb cy 101 k ∧ Below w.heap.size w wr) (fun i _ => l.length - (intOf i).toNat)
        case atStart => exact ⟨0, Nat.zero_le _, rfl, hx, hy, hbel⟩
        case round =>
          clear hx hy hbel
          obtain ⟨j, hj, rfl, hx, hy, hbel⟩ := hrel
          have hwr := hbel.size
          by_cases hlt : j < l.length
          · obtain ⟨ad, rfl, hc0⟩ := (ha.kept hbel).get hlt
            go_wp2_with fail
            refine (put_yes hx (by simp) l[j]).mono ?_
            rintro e w4 ⟨rfl, h4, t4⟩
            have b4 := below_turned hbel t4 f1 hwr
            have hy4 := hy.turned t4 f7 (Ne.symm f6)
            have hw4 := b4.size
            obtain ⟨ad', had, hc4⟩ := (ha.kept b4).get hlt
            injection had with had
            subst had
            go_wp2_with fail
            refine (two_first _ _ _ ⟨bx, cx, 101, [l[j]]⟩ ⟨yb, cy, 101, k⟩ _ (two_reads w4 _ _) (h4.alloc _) (hy4.alloc _) l[j] [] rfl).mono ?_
            rintro e w5 ⟨rfl, h5, t5⟩
            have b4a : Below w.heap.size w (w4.alloc (.cells #[.pointer (some ⟨bx, 0, none⟩), .pointer (some ⟨yb, 0, none⟩)] 24)) := b4.alloc hw4 _
            have b5 := below_turned b4a t5 f1 b4a.size
            have hy5 := (hy4.alloc (.cells #[.pointer (some ⟨bx, 0, none⟩), .pointer (some ⟨yb, 0, none⟩)] 24)).turned t5 f7 (Ne.symm f6)
            obtain ⟨ad', had, hc5⟩ := (ha.kept b5).get hlt
            injection had with had
            subst had
            clear b4a
            go_wp2_with fail
            go_roundw
            case rel => exact ⟨j + 1, by omega, by go_num, h5, hy5, b5⟩
            case measure => simp [intOf]; omega
          · go_wp2_with fail
            obtain ⟨w6, rfl⟩ : ∃ w6 : World, w6 = wr := ⟨_, rfl⟩
            go_loopw [14] (fun i wr => ∃ j : Nat, j ≤ k.length ∧ i = .int .i64 j ∧ BoxAt wr bx cx 101 [] ∧ BoxAt wr yb cy 101 (k.drop j) ∧ Below w.heap.size w wr) (fun i _ => k.length - (intOf i).toNat)
            case atStart => exact ⟨0, Nat.zero_le _, rfl, hx, hy, hbel⟩
            case round =>
              clear hx hy hbel
              obtain ⟨j, hj, rfl, hx, hy, hbel⟩ := hrel
              have hwr := hbel.size
              by_cases hlt : j < k.length
              · have hdrop : k.drop j = k[j] :: k.drop (j + 1) := List.drop_eq_getElem_cons hlt
                rw [hdrop] at hy
                clear hdrop
                go_wp2_with fail
                refine (two_second _ _ _ ⟨bx, cx, 101, []⟩ ⟨yb, cy, 101, k[j] :: k.drop (j + 1)⟩ _ (two_reads wr _ _) (hx.alloc _) (hy.alloc _) rfl k[j] _ rfl).mono ?_
                rintro e w5 ⟨rfl, h5, t5⟩
                have b4a : Below w.heap.size w (wr.alloc (.cells #[.pointer (some ⟨bx, 0, none⟩), .pointer (some ⟨yb, 0, none⟩)] 24)) := hbel.alloc hwr _
                have b5 := below_turned b4a t5 f4 b4a.size
                have hx5 := (hx.alloc (.cells #[.pointer (some ⟨bx, 0, none⟩), .pointer (some ⟨yb, 0, none⟩)] 24)).turned t5 f5 f6
                obtain ⟨ad', had, hc5⟩ := (hb.kept b5).get hlt
                subst had
                clear b4a
                go_wp2_with fail
                go_roundw
                case rel => exact ⟨j + 1, by omega, by go_num, hx5, h5, b5⟩
                case measure => simp [intOf]; omega
              · have hend : k.drop j = [] := List.drop_eq_nil_of_le (by omega)
                rw [hend] at hy
                clear hend
                go_wp2_with fail
                refine (two_none _ _ _ ⟨bx, cx, 101, []⟩ ⟨yb, cy, 101, []⟩ _ (two_reads wr _ _) (hx.alloc _) (hy.alloc _) rfl rfl).mono ?_
                rintro e w5 ⟨rfl, rfl⟩
                have b4a : Below w.heap.size w (wr.alloc (.cells #[.pointer (some ⟨bx, 0, none⟩), .pointer (some ⟨yb, 0, none⟩)] 24)) := hbel.alloc hwr _
                have hwa := b4a.size
                go_wp2_with fail
                refine (nil_none _).mono ?_
                rintro e w5 ⟨rfl, rfl⟩
                go_wp2_with fail
                refine (first_any _).mono ?_
                rintro e w6 ⟨rfl, b6⟩
                go_wp2_with fail
                go_ret
                exact ⟨rfl, b4a.trans (b6.mono hwa)⟩
  · rcases (show 100 < l.length ∨ (¬ 100 < l.length ∧ 100 < k.length) by omega) with hlen | ⟨hlen, hlen'⟩
    all_goals
      go_enter Try.func6, Try.ntmps6
      go_wp2_with fail
      refine (first_any _).mono ?_
      rintro e w1 ⟨rfl, b1⟩
      have hw1 := b1.size
      go_wp2_with fail
      refine (first_any _).mono ?_
      rintro e w2 ⟨rfl, b2⟩
      go_wp2_with fail
      go_ret
      exact ⟨rfl, b1.trans (b2.mono hw1)⟩
end Go.Proofs.Ytegjpfdbfjfolaa
